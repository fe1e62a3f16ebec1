/- Scripts: shifts, another base. -/
import Derived.Test.YtgpabckipmhobaaK16
import Derived.LoopN
namespace Go.Proofs.Ytgpabckipmhobaa
open Go.RowKit

attribute [local irreducible] wpQuiet wpG wpP wpK wpList Code.wp Calls

set_option maxHeartbeats 16000000 in
set_option maxRecDepth 100000 in
theorem shifts_c000 (F : Fnt) (l p : Int) (c : Bool) (n : Nat) (h d : Int) (b : Bx (n + 1)) (c0 c1 c2 c3 c6 c7 c8 c9 c10 : Value) (w : World) (sc uc : Nat) (sx : Option Addr) (ux : Option Addr) (X M q QU QV : Int) (hr : Rep w (n + 1) b [c0, c1, c2, c3, .int .i64 h, .int .i64 d, c6, c7, c8, c9, c10]) (bh : -1073741824 ≤ h ∧ h ≤ 1073741824) (bd : -1073741824 ≤ d ∧ d ≤ 1073741824) (hF : FntOk w F) (hv : ValidF F) (hi : innerS (n + 1) b = none) (hl : 0 ≤ l ∧ l ≤ 3) (eX : X = scl F.xheight p) (eM : M = scl X 80) (eq : q = sizeOf' F (2 + l / 2)) (eQU : QU = scl F.supdrop q) (eQV : QV = scl F.subdrop q) (_bX : 0 ≤ X ∧ X ≤ 20000) (_bM : 0 ≤ M ∧ M ≤ 20000) (bQU : 0 ≤ QU ∧ QU ≤ 20000) (bQV : 0 ≤ QV ∧ QV ≤ 20000) :
    Calls Try.prog 46 #[F.val, .agg #[.int .i64 l, .bool c], .int .i64 p, .agg #[c0, c1, c2, c3, .int .i64 h, .int .i64 d, c6, c7, c8, c9, c10], .slice sx 0 sc, .slice ux 0 uc] w (Gives (.tuple #[.int .i64 (h - QU), .int .i64 (d + QV)]) w) := by
  have HI := Lib.hid (fun w' k (h : Below w.heap.size w w') (hk : w'.rangeAt k 0 [c0, c1, c2, c3, .int .i64 _, .int .i64 _, c6, c7, c8, c9, c10]) => innermost_calls (fun k => k < w.heap.size) (n + 1) b _ k 0 w' hk (RepG.step h (n + 1) b _ (rep_old (n + 1) b _ hr)))
  rw [hi] at HI
  have HX := Lib.hid (fun (w' : World) (b : Nat) (hc : w'.cell? ⟨b, 0, none⟩ = some (.int .i64 p)) => show Calls Try.prog 70 #[.int .i64 F.xheight, .pointer (some ⟨b, 0, none⟩)] w' (Gives (.int .i64 X) w') by rw [eX]; exact shifts1_calls _ _ _ _ hc)
  have HM := Lib.hid (fun (w' : World) => show Calls Try.prog 64 #[.int .i64 X, .int .i64 80] w' (Gives (.int .i64 M) w') by rw [eM]; exact length_Scale_gives _ _ _)
  have HSl := Lib.hid (fun (w' : World) => show Calls Try.prog 71 #[.int .i64 8, .int .i64 1, .agg #[.int .i64 l, .bool c]] w' (Gives (.tuple #[.agg #[.int .i64 (2 + l / 2), .bool c], .int .i64 0]) w') by
    cases c
    · exact slot_8_1_false l w' hl.1 hl.2
    · exact slot_8_1_true l w' hl.1 hl.2)
  have HPc := Lib.hid (fun (w' : World) (h : Below w.heap.size w w') => show Calls Try.prog 44 #[F.val, .agg #[.int .i64 (2 + l / 2), .bool c]] w' (Gives (.tuple #[.int .i64 q, .int .i64 0]) w') by
    rw [eq]
    exact style_Percent_calls F (2 + l / 2) _ 0 c w' (hF.below h) ⟨fun _ => ⟨rfl, rfl⟩, fun h => by
      rcases h with h | h
      · simp [lvlOk] at h; omega
      · exact absurd hv h⟩)
  have HQU := Lib.hid (fun (w' : World) => show Calls Try.prog 64 #[.int .i64 F.supdrop, .int .i64 q] w' (Gives (.int .i64 QU) w') by rw [eQU]; exact length_Scale_gives _ _ _)
  have HQV := Lib.hid (fun (w' : World) => show Calls Try.prog 64 #[.int .i64 F.subdrop, .int .i64 q] w' (Gives (.int .i64 QV) w') by rw [eQV]; exact length_Scale_gives _ _ _)
  generalize 2 + l / 2 = l2 at *
  have i0 : IntKind.i64.wrap (h - QU) = h - QU := IntWalk.i64_in _ (by omega)
  have i1 : IntKind.i64.wrap (d + QV) = d + QV := IntWalk.i64_in _ (by omega)
  have HH := Lib.hid hr
  clear hr hi bh bd hl eX eM eq eQU eQV _bX _bM bQU bQV hF hv
  go_enter Try.func46, Try.ntmps46
  have hS := own_start w
  go_upto_region 1 with (first | (refine own_unguard (by rfl) ?_) | (refine own_box1 (v := .int .i64 p) rfl _ _ rfl rfl rfl hS ?_; clear hS; (try clear ww); intro bb ww hS) | (refine w_ld rfl _ rfl (by rfl) (by first | exact rd_1 (by repeat constructor) (by first | rfl | assumption) | exact rd_w (by repeat constructor) (by rfl) | exact rd_o (by assumption) (by rfl) (by first | exact nmn | assumption | simp) | exact rd_h (by assumption) (by rfl) (by first | exact nmn | assumption | simp) | exact rd_1o (by assumption) (by first | exact nmn | assumption | simp) | exact rd_1h (by assumption) (by first | rfl | assumption) (by first | exact nmn | assumption | simp)) hS ?_) | (refine own_box rfl _ _ rfl (by rfl) hS ?_; clear hS; (try clear ww); intro bb ww hS) | (refine w_al rfl rfl hS ?_; clear hS; (try clear ww); intro bb ww hS) | (refine w_st rfl _ _ rfl (by rfl) (by rfl) (by repeat constructor) (by rfl) (by rfl) (by first | rfl | assumption) hS ?_; clear hS; (try clear ww); intro ww hS) | (refine w_s1 rfl _ _ rfl (by rfl) (by repeat constructor) (by first | exact .c | exact .t rfl) (by rfl) (by repeat constructor) hS ?_; clear hS; (try clear ww); intro ww hS))
  have rF := (hS.get at3).range
  have rS := (hS.get at2).range
  have cP := (hS.get at1).cell 0
  simp only [List.getElem?_cons_zero] at cP
  have rB := (hS.get at0).range
  have HB0 := Lib.hid hS.below
  obtain ⟨rP, p3, p5, p13, p14, p15, p16⟩ := fnt_cells rF
  obtain ⟨bc4, bc5⟩ := box_cells0 rB
  clear hS
  have hS := own_start ww
  go_wp2_with (first | (refine own_unguard (by rfl) ?_) | (go_at_call 28; fail) | (refine w_ld rfl _ rfl (by rfl) (by first | exact rd_1 (by repeat constructor) (by first | rfl | assumption) | exact rd_w (by repeat constructor) (by rfl) | exact rd_o (by assumption) (by rfl) (by first | exact nmn | assumption | simp) | exact rd_h (by assumption) (by rfl) (by first | exact nmn | assumption | simp) | exact rd_1o (by assumption) (by first | exact nmn | assumption | simp) | exact rd_1h (by assumption) (by first | rfl | assumption) (by first | exact nmn | assumption | simp)) hS ?_) | (refine own_box rfl _ _ rfl (by rfl) hS ?_; clear hS; (try clear ww); intro bb ww hS) | (refine w_al rfl rfl hS ?_; clear hS; (try clear ww); intro bb ww hS) | (refine w_st rfl _ _ rfl (by rfl) (by rfl) (by repeat constructor) (by rfl) (by rfl) (by first | rfl | assumption) hS ?_; clear hS; (try clear ww); intro ww hS) | (refine w_s1 rfl _ _ rfl (by rfl) (by repeat constructor) (by first | exact .c | exact .t rfl) (by rfl) (by repeat constructor) hS ?_; clear hS; (try clear ww); intro ww hS))
  go_at_call 28
  refine Calls.mono (HI.out _ _ (bthen HB0.out hS.below) (hS.range List.not_mem_nil rB)) ?_
  rintro e w1 ⟨v, rfl, hv, hb1⟩
  obtain rfl : v = _ := hv
  have hS1 := hS.step hb1
  clear hS hb1
  (try clear ww)
  have hS := hS1
  clear hS1
  go_upto_region 5 with (first | (refine own_unguard (by rfl) ?_) | (go_at_call 70; refine own_calls hS (HX.out _ _ (hS.cell List.not_mem_nil cP)) ?_; clear hS; (try clear ww); intro ww hS) | (go_at_call 64; refine own_calls hS (HM.out _) ?_; clear hS; (try clear ww); intro ww hS) | (go_at_call 71; refine own_calls hS (HSl.out _) ?_; clear hS; (try clear ww); intro ww hS) | (go_at_call 44; refine own_calls hS (HPc.out _ (bthen HB0.out hS.below)) ?_; clear hS; (try clear ww); intro ww hS) | (refine w_ld rfl _ rfl (by rfl) (by first | exact rd_1 (by repeat constructor) (by first | rfl | assumption) | exact rd_w (by repeat constructor) (by rfl) | exact rd_o (by assumption) (by rfl) (by first | exact nmn | assumption | simp) | exact rd_h (by assumption) (by rfl) (by first | exact nmn | assumption | simp) | exact rd_1o (by assumption) (by first | exact nmn | assumption | simp) | exact rd_1h (by assumption) (by first | rfl | assumption) (by first | exact nmn | assumption | simp)) hS ?_) | (refine own_box rfl _ _ rfl (by rfl) hS ?_; clear hS; (try clear ww); intro bb ww hS) | (refine w_al rfl rfl hS ?_; clear hS; (try clear ww); intro bb ww hS) | (refine w_st rfl _ _ rfl (by rfl) (by rfl) (by repeat constructor) (by rfl) (by rfl) (by first | rfl | assumption) hS ?_; clear hS; (try clear ww); intro ww hS) | (refine w_s1 rfl _ _ rfl (by rfl) (by repeat constructor) (by first | exact .c | exact .t rfl) (by rfl) (by repeat constructor) hS ?_; clear hS; (try clear ww); intro ww hS))
  (try simp only [Act.put]); (try simp only [List.setIfInBounds_toArray]); (try simp only [List.set_cons_succ]); (try simp only [List.set_cons_zero])
  refine own_region hS (by kernel_rfl) (by kernel_rfl) ?_
  (try simp only [List.append])
  (try simp only); (try simp only [List.drop_succ_cons]); (try simp only [List.drop_zero]); (try simp only [List.take_succ_cons]); (try simp only [List.take_zero])
  repeat (first
      | (first | (refine quiet_plain rfl ?_) | (refine quiet_yes rfl rfl rfl (by simp only [List.getElem?_toArray, List.getElem?_cons_succ, List.getElem?_cons_zero]; rfl) (by with_reducible constructor) ?_)
         apply Exists.intro; refine ⟨?_, ?_⟩
         focus (intro wq hq0; have hq : Own _ _ _ wq := hq0; first | (exact quietAt_rd rfl (by rfl) (by first | exact rd_1 (by repeat constructor) (by first | rfl | assumption) | exact rd_w (by repeat constructor) (by rfl) | exact rd_o (by assumption) (by rfl) (by first | exact nmn | assumption | simp) | exact rd_h (by assumption) (by rfl) (by first | exact nmn | assumption | simp) | exact rd_1o (by assumption) (by first | exact nmn | assumption | simp) | exact rd_1h (by assumption) (by first | rfl | assumption) (by first | exact nmn | assumption | simp)) hq) | (go_simp; first | (go_at_call 64; exact quietG hq (HQU.out _)) | (with_reducible rfl)))
         simp only [Act.put, List.setIfInBounds_toArray, List.set_cons_zero, List.set_cons_succ])
      | (refine quiet_no rfl rfl rfl (by simp only [List.getElem?_toArray, List.getElem?_cons_succ, List.getElem?_cons_zero]; rfl) (by with_reducible constructor) ?_; simp only [Act.put, List.setIfInBounds_toArray, List.set_cons_zero, List.set_cons_succ]))
  refine wpQuiet_nil ?_
  clear hS
  intro ww hS
  go_upto_region 6 with (first | (refine own_unguard (by rfl) ?_) | (go_at_call 70; refine own_calls hS (HX.out _ _ (hS.cell List.not_mem_nil cP)) ?_; clear hS; (try clear ww); intro ww hS) | (go_at_call 64; refine own_calls hS (HM.out _) ?_; clear hS; (try clear ww); intro ww hS) | (go_at_call 71; refine own_calls hS (HSl.out _) ?_; clear hS; (try clear ww); intro ww hS) | (go_at_call 44; refine own_calls hS (HPc.out _ (bthen HB0.out hS.below)) ?_; clear hS; (try clear ww); intro ww hS) | (refine w_ld rfl _ rfl (by rfl) (by first | exact rd_1 (by repeat constructor) (by first | rfl | assumption) | exact rd_w (by repeat constructor) (by rfl) | exact rd_o (by assumption) (by rfl) (by first | exact nmn | assumption | simp) | exact rd_h (by assumption) (by rfl) (by first | exact nmn | assumption | simp) | exact rd_1o (by assumption) (by first | exact nmn | assumption | simp) | exact rd_1h (by assumption) (by first | rfl | assumption) (by first | exact nmn | assumption | simp)) hS ?_) | (refine own_box rfl _ _ rfl (by rfl) hS ?_; clear hS; (try clear ww); intro bb ww hS) | (refine w_al rfl rfl hS ?_; clear hS; (try clear ww); intro bb ww hS) | (refine w_st rfl _ _ rfl (by rfl) (by rfl) (by repeat constructor) (by rfl) (by rfl) (by first | rfl | assumption) hS ?_; clear hS; (try clear ww); intro ww hS) | (refine w_s1 rfl _ _ rfl (by rfl) (by repeat constructor) (by first | exact .c | exact .t rfl) (by rfl) (by repeat constructor) hS ?_; clear hS; (try clear ww); intro ww hS))
  (try simp only [Act.put]); (try simp only [List.setIfInBounds_toArray]); (try simp only [List.set_cons_succ]); (try simp only [List.set_cons_zero])
  refine own_region hS (by kernel_rfl) (by kernel_rfl) ?_
  (try simp only [List.append])
  (try simp only); (try simp only [List.drop_succ_cons]); (try simp only [List.drop_zero]); (try simp only [List.take_succ_cons]); (try simp only [List.take_zero])
  repeat (first
      | (first | (refine quiet_plain rfl ?_) | (refine quiet_yes rfl rfl rfl (by simp only [List.getElem?_toArray, List.getElem?_cons_succ, List.getElem?_cons_zero]; rfl) (by with_reducible constructor) ?_)
         apply Exists.intro; refine ⟨?_, ?_⟩
         focus (intro wq hq0; have hq : Own _ _ _ wq := hq0; first | (exact quietAt_rd rfl (by rfl) (by first | exact rd_1 (by repeat constructor) (by first | rfl | assumption) | exact rd_w (by repeat constructor) (by rfl) | exact rd_o (by assumption) (by rfl) (by first | exact nmn | assumption | simp) | exact rd_h (by assumption) (by rfl) (by first | exact nmn | assumption | simp) | exact rd_1o (by assumption) (by first | exact nmn | assumption | simp) | exact rd_1h (by assumption) (by first | rfl | assumption) (by first | exact nmn | assumption | simp)) hq) | (go_simp; first | (go_at_call 64; exact quietG hq (HQV.out _)) | (with_reducible rfl)))
         simp only [Act.put, List.setIfInBounds_toArray, List.set_cons_zero, List.set_cons_succ])
      | (refine quiet_no rfl rfl rfl (by simp only [List.getElem?_toArray, List.getElem?_cons_succ, List.getElem?_cons_zero]; rfl) (by with_reducible constructor) ?_; simp only [Act.put, List.setIfInBounds_toArray, List.set_cons_zero, List.set_cons_succ]))
  refine wpQuiet_nil ?_
  clear hS
  intro ww hS
  go_wp2_with (first | (refine own_unguard (by rfl) ?_) | (go_at_call 70; refine own_calls hS (HX.out _ _ (hS.cell List.not_mem_nil cP)) ?_; clear hS; (try clear ww); intro ww hS) | (go_at_call 64; refine own_calls hS (HM.out _) ?_; clear hS; (try clear ww); intro ww hS) | (go_at_call 71; refine own_calls hS (HSl.out _) ?_; clear hS; (try clear ww); intro ww hS) | (go_at_call 44; refine own_calls hS (HPc.out _ (bthen HB0.out hS.below)) ?_; clear hS; (try clear ww); intro ww hS) | (refine w_ld rfl _ rfl (by rfl) (by first | exact rd_1 (by repeat constructor) (by first | rfl | assumption) | exact rd_w (by repeat constructor) (by rfl) | exact rd_o (by assumption) (by rfl) (by first | exact nmn | assumption | simp) | exact rd_h (by assumption) (by rfl) (by first | exact nmn | assumption | simp) | exact rd_1o (by assumption) (by first | exact nmn | assumption | simp) | exact rd_1h (by assumption) (by first | rfl | assumption) (by first | exact nmn | assumption | simp)) hS ?_) | (refine own_box rfl _ _ rfl (by rfl) hS ?_; clear hS; (try clear ww); intro bb ww hS) | (refine w_al rfl rfl hS ?_; clear hS; (try clear ww); intro bb ww hS) | (refine w_st rfl _ _ rfl (by rfl) (by rfl) (by repeat constructor) (by rfl) (by rfl) (by first | rfl | assumption) hS ?_; clear hS; (try clear ww); intro ww hS) | (refine w_s1 rfl _ _ rfl (by rfl) (by repeat constructor) (by first | exact .c | exact .t rfl) (by rfl) (by repeat constructor) hS ?_; clear hS; (try clear ww); intro ww hS))
  refine wp_loop_rounds 1 ?_
  rw [rounds_succ]
  go_wp2_with (first | (refine own_unguard (by rfl) ?_) | (go_at_call 70; refine own_calls hS (HX.out _ _ (hS.cell List.not_mem_nil cP)) ?_; clear hS; (try clear ww); intro ww hS) | (go_at_call 64; refine own_calls hS (HM.out _) ?_; clear hS; (try clear ww); intro ww hS) | (go_at_call 71; refine own_calls hS (HSl.out _) ?_; clear hS; (try clear ww); intro ww hS) | (go_at_call 44; refine own_calls hS (HPc.out _ (bthen HB0.out hS.below)) ?_; clear hS; (try clear ww); intro ww hS) | (refine w_ld rfl _ rfl (by rfl) (by first | exact rd_1 (by repeat constructor) (by first | rfl | assumption) | exact rd_w (by repeat constructor) (by rfl) | exact rd_o (by assumption) (by rfl) (by first | exact nmn | assumption | simp) | exact rd_h (by assumption) (by rfl) (by first | exact nmn | assumption | simp) | exact rd_1o (by assumption) (by first | exact nmn | assumption | simp) | exact rd_1h (by assumption) (by first | rfl | assumption) (by first | exact nmn | assumption | simp)) hS ?_) | (refine own_box rfl _ _ rfl (by rfl) hS ?_; clear hS; (try clear ww); intro bb ww hS) | (refine w_al rfl rfl hS ?_; clear hS; (try clear ww); intro bb ww hS) | (refine w_st rfl _ _ rfl (by rfl) (by rfl) (by repeat constructor) (by rfl) (by rfl) (by first | rfl | assumption) hS ?_; clear hS; (try clear ww); intro ww hS) | (refine w_s1 rfl _ _ rfl (by rfl) (by repeat constructor) (by first | exact .c | exact .t rfl) (by rfl) (by repeat constructor) hS ?_; clear hS; (try clear ww); intro ww hS))
  refine bodyPost_ret (v := .tuple #[.int .i64 (h - QU), .int .i64 (d + QV)]) (by simp [results, Try.results46, go_sem]) rfl ⟨rfl, bthen HB0.out hS.below⟩

set_option maxHeartbeats 16000000 in
set_option maxRecDepth 100000 in
theorem shifts_c100 (F : Fnt) (l p : Int) (c : Bool) (n : Nat) (h d : Int) (b : Bx (n + 1)) (c0 c1 c2 c3 c6 c7 c8 c9 c10 : Value) (w : World) (sk so : Nat) (s0 s1 s2 s3 s5 s6 s7 s8 s9 s10 : Value) (sh : Int) (sc uc : Nat) (ux : Option Addr) (X M S1 q QU QV : Int) (V : Int) (hr : Rep w (n + 1) b [c0, c1, c2, c3, .int .i64 h, .int .i64 d, c6, c7, c8, c9, c10]) (bh : -1073741824 ≤ h ∧ h ≤ 1073741824) (bd : -1073741824 ≤ d ∧ d ≤ 1073741824) (hF : FntOk w F) (hv : ValidF F) (hi : innerS (n + 1) b = none) (hl : 0 ≤ l ∧ l ≤ 3) (hs : w.rangeAt sk so [s0, s1, s2, s3, .int .i64 sh, s5, s6, s7, s8, s9, s10]) (bs : -1073741824 ≤ sh ∧ sh ≤ 1073741824) (eX : X = scl F.xheight p) (eM : M = scl X 80) (eS1 : S1 = scl F.sub1 p) (eq : q = sizeOf' F (2 + l / 2)) (eQU : QU = scl F.supdrop q) (eQV : QV = scl F.subdrop q) (eV : V = max (max (d + QV) S1) (sh - M)) (_bX : 0 ≤ X ∧ X ≤ 20000) (bM : 0 ≤ M ∧ M ≤ 20000) (bS1 : 0 ≤ S1 ∧ S1 ≤ 20000) (bQU : 0 ≤ QU ∧ QU ≤ 20000) (bQV : 0 ≤ QV ∧ QV ≤ 20000) :
    Calls Try.prog 46 #[F.val, .agg #[.int .i64 l, .bool c], .int .i64 p, .agg #[c0, c1, c2, c3, .int .i64 h, .int .i64 d, c6, c7, c8, c9, c10], .slice (some ⟨sk, so, none⟩) 1 sc, .slice ux 0 uc] w (Gives (.tuple #[.int .i64 (h - QU), .int .i64 V]) w) := by
  have HI := Lib.hid (fun w' k (h : Below w.heap.size w w') (hk : w'.rangeAt k 0 [c0, c1, c2, c3, .int .i64 _, .int .i64 _, c6, c7, c8, c9, c10]) => innermost_calls (fun k => k < w.heap.size) (n + 1) b _ k 0 w' hk (RepG.step h (n + 1) b _ (rep_old (n + 1) b _ hr)))
  rw [hi] at HI
  have HX := Lib.hid (fun (w' : World) (b : Nat) (hc : w'.cell? ⟨b, 0, none⟩ = some (.int .i64 p)) => show Calls Try.prog 70 #[.int .i64 F.xheight, .pointer (some ⟨b, 0, none⟩)] w' (Gives (.int .i64 X) w') by rw [eX]; exact shifts1_calls _ _ _ _ hc)
  have HM := Lib.hid (fun (w' : World) => show Calls Try.prog 64 #[.int .i64 X, .int .i64 80] w' (Gives (.int .i64 M) w') by rw [eM]; exact length_Scale_gives _ _ _)
  have HS1 := Lib.hid (fun (w' : World) (b : Nat) (hc : w'.cell? ⟨b, 0, none⟩ = some (.int .i64 p)) => show Calls Try.prog 70 #[.int .i64 F.sub1, .pointer (some ⟨b, 0, none⟩)] w' (Gives (.int .i64 S1) w') by rw [eS1]; exact shifts1_calls _ _ _ _ hc)
  have HSl := Lib.hid (fun (w' : World) => show Calls Try.prog 71 #[.int .i64 8, .int .i64 1, .agg #[.int .i64 l, .bool c]] w' (Gives (.tuple #[.agg #[.int .i64 (2 + l / 2), .bool c], .int .i64 0]) w') by
    cases c
    · exact slot_8_1_false l w' hl.1 hl.2
    · exact slot_8_1_true l w' hl.1 hl.2)
  have HPc := Lib.hid (fun (w' : World) (h : Below w.heap.size w w') => show Calls Try.prog 44 #[F.val, .agg #[.int .i64 (2 + l / 2), .bool c]] w' (Gives (.tuple #[.int .i64 q, .int .i64 0]) w') by
    rw [eq]
    exact style_Percent_calls F (2 + l / 2) _ 0 c w' (hF.below h) ⟨fun _ => ⟨rfl, rfl⟩, fun h => by
      rcases h with h | h
      · simp [lvlOk] at h; omega
      · exact absurd hv h⟩)
  have HQU := Lib.hid (fun (w' : World) => show Calls Try.prog 64 #[.int .i64 F.supdrop, .int .i64 q] w' (Gives (.int .i64 QU) w') by rw [eQU]; exact length_Scale_gives _ _ _)
  have HQV := Lib.hid (fun (w' : World) => show Calls Try.prog 64 #[.int .i64 F.subdrop, .int .i64 q] w' (Gives (.int .i64 QV) w') by rw [eQV]; exact length_Scale_gives _ _ _)
  generalize 2 + l / 2 = l2 at *
  have hmv := fun (w : World) (ts : Array TypeId) (t : TypeId) => eV ▸ run_max3 (P := Try.prog) (d + QV) S1 (sh - M) w ts t
  have bV : -3000000000 ≤ V ∧ V ≤ 3000000000 := by omega
  have i0 : IntKind.i64.wrap (h - QU) = h - QU := IntWalk.i64_in _ (by omega)
  have i1 : IntKind.i64.wrap (d + QV) = d + QV := IntWalk.i64_in _ (by omega)
  have i2 : IntKind.i64.wrap (sh - M) = sh - M := IntWalk.i64_in _ (by omega)
  have HH := Lib.hid hr
  clear hr hi bh bd hl eX eM eS1 eq eQU eQV _bX bM bS1 bQU bQV hF hv eV bV bs
  go_enter Try.func46, Try.ntmps46
  have hS := own_start w
  go_upto_region 1 with (first | (refine own_unguard (by rfl) ?_) | (refine own_box1 (v := .int .i64 p) rfl _ _ rfl rfl rfl hS ?_; clear hS; (try clear ww); intro bb ww hS) | (refine w_ld rfl _ rfl (by rfl) (by first | exact rd_1 (by repeat constructor) (by first | rfl | assumption) | exact rd_w (by repeat constructor) (by rfl) | exact rd_o (by assumption) (by rfl) (by first | exact nmn | assumption | simp) | exact rd_h (by assumption) (by rfl) (by first | exact nmn | assumption | simp) | exact rd_1o (by assumption) (by first | exact nmn | assumption | simp) | exact rd_1h (by assumption) (by first | rfl | assumption) (by first | exact nmn | assumption | simp)) hS ?_) | (refine own_box rfl _ _ rfl (by rfl) hS ?_; clear hS; (try clear ww); intro bb ww hS) | (refine w_al rfl rfl hS ?_; clear hS; (try clear ww); intro bb ww hS) | (refine w_st rfl _ _ rfl (by rfl) (by rfl) (by repeat constructor) (by rfl) (by rfl) (by first | rfl | assumption) hS ?_; clear hS; (try clear ww); intro ww hS) | (refine w_s1 rfl _ _ rfl (by rfl) (by repeat constructor) (by first | exact .c | exact .t rfl) (by rfl) (by repeat constructor) hS ?_; clear hS; (try clear ww); intro ww hS))
  have rF := (hS.get at3).range
  have rS := (hS.get at2).range
  have cP := (hS.get at1).cell 0
  simp only [List.getElem?_cons_zero] at cP
  have rB := (hS.get at0).range
  have HB0 := Lib.hid hS.below
  obtain ⟨rP, p3, p5, p13, p14, p15, p16⟩ := fnt_cells rF
  obtain ⟨bc4, bc5⟩ := box_cells0 rB
  have hs0 := hS.range List.not_mem_nil hs
  have s4 := hs0 4 _ rfl
  clear hs
  clear hS
  have hS := own_start ww
  go_wp2_with (first | (refine own_unguard (by rfl) ?_) | (go_at_call 28; fail) | (refine w_ld rfl _ rfl (by rfl) (by first | exact rd_1 (by repeat constructor) (by first | rfl | assumption) | exact rd_w (by repeat constructor) (by rfl) | exact rd_o (by assumption) (by rfl) (by first | exact nmn | assumption | simp) | exact rd_h (by assumption) (by rfl) (by first | exact nmn | assumption | simp) | exact rd_1o (by assumption) (by first | exact nmn | assumption | simp) | exact rd_1h (by assumption) (by first | rfl | assumption) (by first | exact nmn | assumption | simp)) hS ?_) | (refine own_box rfl _ _ rfl (by rfl) hS ?_; clear hS; (try clear ww); intro bb ww hS) | (refine w_al rfl rfl hS ?_; clear hS; (try clear ww); intro bb ww hS) | (refine w_st rfl _ _ rfl (by rfl) (by rfl) (by repeat constructor) (by rfl) (by rfl) (by first | rfl | assumption) hS ?_; clear hS; (try clear ww); intro ww hS) | (refine w_s1 rfl _ _ rfl (by rfl) (by repeat constructor) (by first | exact .c | exact .t rfl) (by rfl) (by repeat constructor) hS ?_; clear hS; (try clear ww); intro ww hS))
  go_at_call 28
  refine Calls.mono (HI.out _ _ (bthen HB0.out hS.below) (hS.range List.not_mem_nil rB)) ?_
  rintro e w1 ⟨v, rfl, hv, hb1⟩
  obtain rfl : v = _ := hv
  have hS1 := hS.step hb1
  clear hS hb1
  (try clear ww)
  have hS := hS1
  clear hS1
  go_upto_region 5 with (first | (refine own_unguard (by rfl) ?_) | (go_at_call 70; refine own_calls hS (HX.out _ _ (hS.cell List.not_mem_nil cP)) ?_; clear hS; (try clear ww); intro ww hS) | (go_at_call 64; refine own_calls hS (HM.out _) ?_; clear hS; (try clear ww); intro ww hS) | (go_at_call 71; refine own_calls hS (HSl.out _) ?_; clear hS; (try clear ww); intro ww hS) | (go_at_call 44; refine own_calls hS (HPc.out _ (bthen HB0.out hS.below)) ?_; clear hS; (try clear ww); intro ww hS) | (refine w_ld rfl _ rfl (by rfl) (by first | exact rd_1 (by repeat constructor) (by first | rfl | assumption) | exact rd_w (by repeat constructor) (by rfl) | exact rd_o (by assumption) (by rfl) (by first | exact nmn | assumption | simp) | exact rd_h (by assumption) (by rfl) (by first | exact nmn | assumption | simp) | exact rd_1o (by assumption) (by first | exact nmn | assumption | simp) | exact rd_1h (by assumption) (by first | rfl | assumption) (by first | exact nmn | assumption | simp)) hS ?_) | (refine own_box rfl _ _ rfl (by rfl) hS ?_; clear hS; (try clear ww); intro bb ww hS) | (refine w_al rfl rfl hS ?_; clear hS; (try clear ww); intro bb ww hS) | (refine w_st rfl _ _ rfl (by rfl) (by rfl) (by repeat constructor) (by rfl) (by rfl) (by first | rfl | assumption) hS ?_; clear hS; (try clear ww); intro ww hS) | (refine w_s1 rfl _ _ rfl (by rfl) (by repeat constructor) (by first | exact .c | exact .t rfl) (by rfl) (by repeat constructor) hS ?_; clear hS; (try clear ww); intro ww hS))
  (try simp only [Act.put]); (try simp only [List.setIfInBounds_toArray]); (try simp only [List.set_cons_succ]); (try simp only [List.set_cons_zero])
  refine own_region hS (by kernel_rfl) (by kernel_rfl) ?_
  (try simp only [List.append])
  (try simp only); (try simp only [List.drop_succ_cons]); (try simp only [List.drop_zero]); (try simp only [List.take_succ_cons]); (try simp only [List.take_zero])
  repeat (first
      | (first | (refine quiet_plain rfl ?_) | (refine quiet_yes rfl rfl rfl (by simp only [List.getElem?_toArray, List.getElem?_cons_succ, List.getElem?_cons_zero]; rfl) (by with_reducible constructor) ?_)
         apply Exists.intro; refine ⟨?_, ?_⟩
         focus (intro wq hq0; have hq : Own _ _ _ wq := hq0; first | (exact quietAt_rd rfl (by rfl) (by first | exact rd_1 (by repeat constructor) (by first | rfl | assumption) | exact rd_w (by repeat constructor) (by rfl) | exact rd_o (by assumption) (by rfl) (by first | exact nmn | assumption | simp) | exact rd_h (by assumption) (by rfl) (by first | exact nmn | assumption | simp) | exact rd_1o (by assumption) (by first | exact nmn | assumption | simp) | exact rd_1h (by assumption) (by first | rfl | assumption) (by first | exact nmn | assumption | simp)) hq) | (go_simp; first | (go_at_call 64; exact quietG hq (HQU.out _)) | (with_reducible rfl)))
         simp only [Act.put, List.setIfInBounds_toArray, List.set_cons_zero, List.set_cons_succ])
      | (refine quiet_no rfl rfl rfl (by simp only [List.getElem?_toArray, List.getElem?_cons_succ, List.getElem?_cons_zero]; rfl) (by with_reducible constructor) ?_; simp only [Act.put, List.setIfInBounds_toArray, List.set_cons_zero, List.set_cons_succ]))
  refine wpQuiet_nil ?_
  clear hS
  intro ww hS
  go_upto_region 6 with (first | (refine own_unguard (by rfl) ?_) | (go_at_call 70; refine own_calls hS (HX.out _ _ (hS.cell List.not_mem_nil cP)) ?_; clear hS; (try clear ww); intro ww hS) | (go_at_call 64; refine own_calls hS (HM.out _) ?_; clear hS; (try clear ww); intro ww hS) | (go_at_call 71; refine own_calls hS (HSl.out _) ?_; clear hS; (try clear ww); intro ww hS) | (go_at_call 44; refine own_calls hS (HPc.out _ (bthen HB0.out hS.below)) ?_; clear hS; (try clear ww); intro ww hS) | (refine w_ld rfl _ rfl (by rfl) (by first | exact rd_1 (by repeat constructor) (by first | rfl | assumption) | exact rd_w (by repeat constructor) (by rfl) | exact rd_o (by assumption) (by rfl) (by first | exact nmn | assumption | simp) | exact rd_h (by assumption) (by rfl) (by first | exact nmn | assumption | simp) | exact rd_1o (by assumption) (by first | exact nmn | assumption | simp) | exact rd_1h (by assumption) (by first | rfl | assumption) (by first | exact nmn | assumption | simp)) hS ?_) | (refine own_box rfl _ _ rfl (by rfl) hS ?_; clear hS; (try clear ww); intro bb ww hS) | (refine w_al rfl rfl hS ?_; clear hS; (try clear ww); intro bb ww hS) | (refine w_st rfl _ _ rfl (by rfl) (by rfl) (by repeat constructor) (by rfl) (by rfl) (by first | rfl | assumption) hS ?_; clear hS; (try clear ww); intro ww hS) | (refine w_s1 rfl _ _ rfl (by rfl) (by repeat constructor) (by first | exact .c | exact .t rfl) (by rfl) (by repeat constructor) hS ?_; clear hS; (try clear ww); intro ww hS))
  (try simp only [Act.put]); (try simp only [List.setIfInBounds_toArray]); (try simp only [List.set_cons_succ]); (try simp only [List.set_cons_zero])
  refine own_region hS (by kernel_rfl) (by kernel_rfl) ?_
  (try simp only [List.append])
  (try simp only); (try simp only [List.drop_succ_cons]); (try simp only [List.drop_zero]); (try simp only [List.take_succ_cons]); (try simp only [List.take_zero])
  repeat (first
      | (first | (refine quiet_plain rfl ?_) | (refine quiet_yes rfl rfl rfl (by simp only [List.getElem?_toArray, List.getElem?_cons_succ, List.getElem?_cons_zero]; rfl) (by with_reducible constructor) ?_)
         apply Exists.intro; refine ⟨?_, ?_⟩
         focus (intro wq hq0; have hq : Own _ _ _ wq := hq0; first | (exact quietAt_rd rfl (by rfl) (by first | exact rd_1 (by repeat constructor) (by first | rfl | assumption) | exact rd_w (by repeat constructor) (by rfl) | exact rd_o (by assumption) (by rfl) (by first | exact nmn | assumption | simp) | exact rd_h (by assumption) (by rfl) (by first | exact nmn | assumption | simp) | exact rd_1o (by assumption) (by first | exact nmn | assumption | simp) | exact rd_1h (by assumption) (by first | rfl | assumption) (by first | exact nmn | assumption | simp)) hq) | (go_simp; first | (go_at_call 64; exact quietG hq (HQV.out _)) | (with_reducible rfl)))
         simp only [Act.put, List.setIfInBounds_toArray, List.set_cons_zero, List.set_cons_succ])
      | (refine quiet_no rfl rfl rfl (by simp only [List.getElem?_toArray, List.getElem?_cons_succ, List.getElem?_cons_zero]; rfl) (by with_reducible constructor) ?_; simp only [Act.put, List.setIfInBounds_toArray, List.set_cons_zero, List.set_cons_succ]))
  refine wpQuiet_nil ?_
  clear hS
  intro ww hS
  go_wp2_with (first | (refine own_unguard (by rfl) ?_) | (go_at_call 70; refine own_calls hS (HX.out _ _ (hS.cell List.not_mem_nil cP)) ?_; clear hS; (try clear ww); intro ww hS) | (go_at_call 64; refine own_calls hS (HM.out _) ?_; clear hS; (try clear ww); intro ww hS) | (go_at_call 71; refine own_calls hS (HSl.out _) ?_; clear hS; (try clear ww); intro ww hS) | (go_at_call 44; refine own_calls hS (HPc.out _ (bthen HB0.out hS.below)) ?_; clear hS; (try clear ww); intro ww hS) | (refine w_ld rfl _ rfl (by rfl) (by first | exact rd_1 (by repeat constructor) (by first | rfl | assumption) | exact rd_w (by repeat constructor) (by rfl) | exact rd_o (by assumption) (by rfl) (by first | exact nmn | assumption | simp) | exact rd_h (by assumption) (by rfl) (by first | exact nmn | assumption | simp) | exact rd_1o (by assumption) (by first | exact nmn | assumption | simp) | exact rd_1h (by assumption) (by first | rfl | assumption) (by first | exact nmn | assumption | simp)) hS ?_) | (refine own_box rfl _ _ rfl (by rfl) hS ?_; clear hS; (try clear ww); intro bb ww hS) | (refine w_al rfl rfl hS ?_; clear hS; (try clear ww); intro bb ww hS) | (refine w_st rfl _ _ rfl (by rfl) (by rfl) (by repeat constructor) (by rfl) (by rfl) (by first | rfl | assumption) hS ?_; clear hS; (try clear ww); intro ww hS) | (refine w_s1 rfl _ _ rfl (by rfl) (by repeat constructor) (by first | exact .c | exact .t rfl) (by rfl) (by repeat constructor) hS ?_; clear hS; (try clear ww); intro ww hS))
  refine wp_loop_rounds 1 ?_
  rw [rounds_succ]
  go_upto_region 26 with (first | (refine own_unguard (by rfl) ?_) | (go_at_call 70; refine own_calls hS (HX.out _ _ (hS.cell List.not_mem_nil cP)) ?_; clear hS; (try clear ww); intro ww hS) | (go_at_call 64; refine own_calls hS (HM.out _) ?_; clear hS; (try clear ww); intro ww hS) | (go_at_call 71; refine own_calls hS (HSl.out _) ?_; clear hS; (try clear ww); intro ww hS) | (go_at_call 44; refine own_calls hS (HPc.out _ (bthen HB0.out hS.below)) ?_; clear hS; (try clear ww); intro ww hS) | (refine w_ld rfl _ rfl (by rfl) (by first | exact rd_1 (by repeat constructor) (by first | rfl | assumption) | exact rd_w (by repeat constructor) (by rfl) | exact rd_o (by assumption) (by rfl) (by first | exact nmn | assumption | simp) | exact rd_h (by assumption) (by rfl) (by first | exact nmn | assumption | simp) | exact rd_1o (by assumption) (by first | exact nmn | assumption | simp) | exact rd_1h (by assumption) (by first | rfl | assumption) (by first | exact nmn | assumption | simp)) hS ?_) | (refine own_box rfl _ _ rfl (by rfl) hS ?_; clear hS; (try clear ww); intro bb ww hS) | (refine w_al rfl rfl hS ?_; clear hS; (try clear ww); intro bb ww hS) | (refine w_st rfl _ _ rfl (by rfl) (by rfl) (by repeat constructor) (by rfl) (by rfl) (by first | rfl | assumption) hS ?_; clear hS; (try clear ww); intro ww hS) | (refine w_s1 rfl _ _ rfl (by rfl) (by repeat constructor) (by first | exact .c | exact .t rfl) (by rfl) (by repeat constructor) hS ?_; clear hS; (try clear ww); intro ww hS))
  (try simp only [Act.put]); (try simp only [List.setIfInBounds_toArray]); (try simp only [List.set_cons_succ]); (try simp only [List.set_cons_zero])
  refine own_region hS (by kernel_rfl) (by kernel_rfl) ?_
  (try simp only [List.append])
  (try simp only); (try simp only [List.drop_succ_cons]); (try simp only [List.drop_zero]); (try simp only [List.take_succ_cons]); (try simp only [List.take_zero])
  repeat (first
      | (first | (refine quiet_plain rfl ?_) | (refine quiet_yes rfl rfl rfl (by simp only [List.getElem?_toArray, List.getElem?_cons_succ, List.getElem?_cons_zero]; rfl) (by with_reducible constructor) ?_)
         apply Exists.intro; refine ⟨?_, ?_⟩
         focus (intro wq hq0; have hq : Own _ _ _ wq := hq0; first | (exact quietAt_rd rfl (by rfl) (by first | exact rd_1 (by repeat constructor) (by first | rfl | assumption) | exact rd_w (by repeat constructor) (by rfl) | exact rd_o (by assumption) (by rfl) (by first | exact nmn | assumption | simp) | exact rd_h (by assumption) (by rfl) (by first | exact nmn | assumption | simp) | exact rd_1o (by assumption) (by first | exact nmn | assumption | simp) | exact rd_1h (by assumption) (by first | rfl | assumption) (by first | exact nmn | assumption | simp)) hq) | (go_simp; first | (go_at_call 70; exact quietG hq (HS1.out _ _ (hq.cell List.not_mem_nil cP))) | (with_reducible rfl)))
         simp only [Act.put, List.setIfInBounds_toArray, List.set_cons_zero, List.set_cons_succ])
      | (refine quiet_no rfl rfl rfl (by simp only [List.getElem?_toArray, List.getElem?_cons_succ, List.getElem?_cons_zero]; rfl) (by with_reducible constructor) ?_; simp only [Act.put, List.setIfInBounds_toArray, List.set_cons_zero, List.set_cons_succ]))
  refine wpQuiet_nil ?_
  clear hS
  intro ww hS
  go_wp2_with (first | (refine own_unguard (by rfl) ?_) | (go_at_call 70; refine own_calls hS (HX.out _ _ (hS.cell List.not_mem_nil cP)) ?_; clear hS; (try clear ww); intro ww hS) | (go_at_call 64; refine own_calls hS (HM.out _) ?_; clear hS; (try clear ww); intro ww hS) | (go_at_call 71; refine own_calls hS (HSl.out _) ?_; clear hS; (try clear ww); intro ww hS) | (go_at_call 44; refine own_calls hS (HPc.out _ (bthen HB0.out hS.below)) ?_; clear hS; (try clear ww); intro ww hS) | (refine w_ld rfl _ rfl (by rfl) (by first | exact rd_1 (by repeat constructor) (by first | rfl | assumption) | exact rd_w (by repeat constructor) (by rfl) | exact rd_o (by assumption) (by rfl) (by first | exact nmn | assumption | simp) | exact rd_h (by assumption) (by rfl) (by first | exact nmn | assumption | simp) | exact rd_1o (by assumption) (by first | exact nmn | assumption | simp) | exact rd_1h (by assumption) (by first | rfl | assumption) (by first | exact nmn | assumption | simp)) hS ?_) | (refine own_box rfl _ _ rfl (by rfl) hS ?_; clear hS; (try clear ww); intro bb ww hS) | (refine w_al rfl rfl hS ?_; clear hS; (try clear ww); intro bb ww hS) | (refine w_st rfl _ _ rfl (by rfl) (by rfl) (by repeat constructor) (by rfl) (by rfl) (by first | rfl | assumption) hS ?_; clear hS; (try clear ww); intro ww hS) | (refine w_s1 rfl _ _ rfl (by rfl) (by repeat constructor) (by first | exact .c | exact .t rfl) (by rfl) (by repeat constructor) hS ?_; clear hS; (try clear ww); intro ww hS))
  refine bodyPost_ret (v := .tuple #[.int .i64 (h - QU), .int .i64 V]) (by simp [results, Try.results46, go_sem]) rfl ⟨rfl, bthen HB0.out hS.below⟩

set_option maxHeartbeats 16000000 in
set_option maxRecDepth 100000 in
theorem shifts_c010 (F : Fnt) (l p : Int) (c : Bool) (n : Nat) (h d : Int) (b : Bx (n + 1)) (c0 c1 c2 c3 c6 c7 c8 c9 c10 : Value) (w : World) (uk uo : Nat) (u0 u1 u2 u3 u4 u6 u7 u8 u9 u10 : Value) (ud : Int) (sc uc : Nat) (sx : Option Addr) (X M R N q QU QV : Int) (U : Int) (hr : Rep w (n + 1) b [c0, c1, c2, c3, .int .i64 h, .int .i64 d, c6, c7, c8, c9, c10]) (bh : -1073741824 ≤ h ∧ h ≤ 1073741824) (bd : -1073741824 ≤ d ∧ d ≤ 1073741824) (hF : FntOk w F) (hv : ValidF F) (hi : innerS (n + 1) b = none) (hl : 0 ≤ l ∧ l ≤ 3) (hu : w.rangeAt uk uo [u0, u1, u2, u3, u4, .int .i64 ud, u6, u7, u8, u9, u10]) (ha : ([u0, u1, u2, u3, u4, .int .i64 ud, u6, u7, u8, u9, u10] : List Value).all (·.oneCell') = true) (bu : -1073741824 ≤ ud ∧ ud ≤ 1073741824) (eX : X = scl F.xheight p) (eM : M = scl X 80) (eR : R = scl (raiseP F l c) p) (eN : N = scl X 25) (eq : q = sizeOf' F (2 + l / 2)) (eQU : QU = scl F.supdrop q) (eQV : QV = scl F.subdrop q) (eU : U = max (max (h - QU) R) (ud + N)) (_bX : 0 ≤ X ∧ X ≤ 20000) (_bM : 0 ≤ M ∧ M ≤ 20000) (bR : 0 ≤ R ∧ R ≤ 20000) (bN : 0 ≤ N ∧ N ≤ 20000) (bQU : 0 ≤ QU ∧ QU ≤ 20000) (bQV : 0 ≤ QV ∧ QV ≤ 20000) :
    Calls Try.prog 46 #[F.val, .agg #[.int .i64 l, .bool c], .int .i64 p, .agg #[c0, c1, c2, c3, .int .i64 h, .int .i64 d, c6, c7, c8, c9, c10], .slice sx 0 sc, .slice (some ⟨uk, uo, none⟩) 1 uc] w (Gives (.tuple #[.int .i64 U, .int .i64 (d + QV)]) w) := by
  have HI := Lib.hid (fun w' k (h : Below w.heap.size w w') (hk : w'.rangeAt k 0 [c0, c1, c2, c3, .int .i64 _, .int .i64 _, c6, c7, c8, c9, c10]) => innermost_calls (fun k => k < w.heap.size) (n + 1) b _ k 0 w' hk (RepG.step h (n + 1) b _ (rep_old (n + 1) b _ hr)))
  rw [hi] at HI
  have HX := Lib.hid (fun (w' : World) (b : Nat) (hc : w'.cell? ⟨b, 0, none⟩ = some (.int .i64 p)) => show Calls Try.prog 70 #[.int .i64 F.xheight, .pointer (some ⟨b, 0, none⟩)] w' (Gives (.int .i64 X) w') by rw [eX]; exact shifts1_calls _ _ _ _ hc)
  have HM := Lib.hid (fun (w' : World) => show Calls Try.prog 64 #[.int .i64 X, .int .i64 80] w' (Gives (.int .i64 M) w') by rw [eM]; exact length_Scale_gives _ _ _)
  have HN := Lib.hid (fun (w' : World) => show Calls Try.prog 64 #[.int .i64 X, .int .i64 25] w' (Gives (.int .i64 N) w') by rw [eN]; exact length_Scale_gives _ _ _)
  have HR := Lib.hid (fun (w' : World) (b : Nat) (hc : w'.cell? ⟨b, 0, none⟩ = some (.int .i64 p)) => show Calls Try.prog 70 #[.int .i64 (raiseP F l c), .pointer (some ⟨b, 0, none⟩)] w' (Gives (.int .i64 R) w') by rw [eR]; exact shifts1_calls _ _ _ _ hc)
  have HRs := Lib.hid (fun (w' : World) => raise_calls F l c w' (by omega))
  have HSl := Lib.hid (fun (w' : World) => show Calls Try.prog 71 #[.int .i64 8, .int .i64 1, .agg #[.int .i64 l, .bool c]] w' (Gives (.tuple #[.agg #[.int .i64 (2 + l / 2), .bool c], .int .i64 0]) w') by
    cases c
    · exact slot_8_1_false l w' hl.1 hl.2
    · exact slot_8_1_true l w' hl.1 hl.2)
  have HPc := Lib.hid (fun (w' : World) (h : Below w.heap.size w w') => show Calls Try.prog 44 #[F.val, .agg #[.int .i64 (2 + l / 2), .bool c]] w' (Gives (.tuple #[.int .i64 q, .int .i64 0]) w') by
    rw [eq]
    exact style_Percent_calls F (2 + l / 2) _ 0 c w' (hF.below h) ⟨fun _ => ⟨rfl, rfl⟩, fun h => by
      rcases h with h | h
      · simp [lvlOk] at h; omega
      · exact absurd hv h⟩)
  have HQU := Lib.hid (fun (w' : World) => show Calls Try.prog 64 #[.int .i64 F.supdrop, .int .i64 q] w' (Gives (.int .i64 QU) w') by rw [eQU]; exact length_Scale_gives _ _ _)
  have HQV := Lib.hid (fun (w' : World) => show Calls Try.prog 64 #[.int .i64 F.subdrop, .int .i64 q] w' (Gives (.int .i64 QV) w') by rw [eQV]; exact length_Scale_gives _ _ _)
  generalize 2 + l / 2 = l2 at *
  have hmu := fun (w : World) (ts : Array TypeId) (t : TypeId) => eU ▸ run_max3 (P := Try.prog) (h - QU) R (ud + N) w ts t
  have bU : -3000000000 ≤ U ∧ U ≤ 3000000000 := by omega
  have i0 : IntKind.i64.wrap (h - QU) = h - QU := IntWalk.i64_in _ (by omega)
  have i1 : IntKind.i64.wrap (d + QV) = d + QV := IntWalk.i64_in _ (by omega)
  have i2 : IntKind.i64.wrap (ud + N) = ud + N := IntWalk.i64_in _ (by omega)
  have HH := Lib.hid hr
  clear hr hi bh bd hl eX eM eR eN eq eQU eQV _bX _bM bR bN bQU bQV hF hv eU bU bu
  go_enter Try.func46, Try.ntmps46
  have hS := own_start w
  go_upto_region 1 with (first | (refine own_unguard (by rfl) ?_) | (refine own_box1 (v := .int .i64 p) rfl _ _ rfl rfl rfl hS ?_; clear hS; (try clear ww); intro bb ww hS) | (refine w_ld rfl _ rfl (by rfl) (by first | exact rd_1 (by repeat constructor) (by first | rfl | assumption) | exact rd_w (by repeat constructor) (by rfl) | exact rd_o (by assumption) (by rfl) (by first | exact nmn | assumption | simp) | exact rd_h (by assumption) (by rfl) (by first | exact nmn | assumption | simp) | exact rd_1o (by assumption) (by first | exact nmn | assumption | simp) | exact rd_1h (by assumption) (by first | rfl | assumption) (by first | exact nmn | assumption | simp)) hS ?_) | (refine own_box rfl _ _ rfl (by rfl) hS ?_; clear hS; (try clear ww); intro bb ww hS) | (refine w_al rfl rfl hS ?_; clear hS; (try clear ww); intro bb ww hS) | (refine w_st rfl _ _ rfl (by rfl) (by rfl) (by repeat constructor) (by rfl) (by rfl) (by first | rfl | assumption) hS ?_; clear hS; (try clear ww); intro ww hS) | (refine w_s1 rfl _ _ rfl (by rfl) (by repeat constructor) (by first | exact .c | exact .t rfl) (by rfl) (by repeat constructor) hS ?_; clear hS; (try clear ww); intro ww hS))
  have rF := (hS.get at3).range
  have rS := (hS.get at2).range
  have cP := (hS.get at1).cell 0
  simp only [List.getElem?_cons_zero] at cP
  have rB := (hS.get at0).range
  have HB0 := Lib.hid hS.below
  obtain ⟨rP, p3, p5, p13, p14, p15, p16⟩ := fnt_cells rF
  obtain ⟨bc4, bc5⟩ := box_cells0 rB
  have hu0 := hS.range List.not_mem_nil hu
  have u5 := hu0 5 _ rfl
  clear hu
  clear hS
  have hS := own_start ww
  go_wp2_with (first | (refine own_unguard (by rfl) ?_) | (go_at_call 28; fail) | (refine w_ld rfl _ rfl (by rfl) (by first | exact rd_1 (by repeat constructor) (by first | rfl | assumption) | exact rd_w (by repeat constructor) (by rfl) | exact rd_o (by assumption) (by rfl) (by first | exact nmn | assumption | simp) | exact rd_h (by assumption) (by rfl) (by first | exact nmn | assumption | simp) | exact rd_1o (by assumption) (by first | exact nmn | assumption | simp) | exact rd_1h (by assumption) (by first | rfl | assumption) (by first | exact nmn | assumption | simp)) hS ?_) | (refine own_box rfl _ _ rfl (by rfl) hS ?_; clear hS; (try clear ww); intro bb ww hS) | (refine w_al rfl rfl hS ?_; clear hS; (try clear ww); intro bb ww hS) | (refine w_st rfl _ _ rfl (by rfl) (by rfl) (by repeat constructor) (by rfl) (by rfl) (by first | rfl | assumption) hS ?_; clear hS; (try clear ww); intro ww hS) | (refine w_s1 rfl _ _ rfl (by rfl) (by repeat constructor) (by first | exact .c | exact .t rfl) (by rfl) (by repeat constructor) hS ?_; clear hS; (try clear ww); intro ww hS))
  go_at_call 28
  refine Calls.mono (HI.out _ _ (bthen HB0.out hS.below) (hS.range List.not_mem_nil rB)) ?_
  rintro e w1 ⟨v, rfl, hv, hb1⟩
  obtain rfl : v = _ := hv
  have hS1 := hS.step hb1
  clear hS hb1
  (try clear ww)
  have hS := hS1
  clear hS1
  go_upto_region 5 with (first | (refine own_unguard (by rfl) ?_) | (go_at_call 70; refine own_calls hS (HX.out _ _ (hS.cell List.not_mem_nil cP)) ?_; clear hS; (try clear ww); intro ww hS) | (go_at_call 64; refine own_calls hS (HM.out _) ?_; clear hS; (try clear ww); intro ww hS) | (go_at_call 71; refine own_calls hS (HSl.out _) ?_; clear hS; (try clear ww); intro ww hS) | (go_at_call 44; refine own_calls hS (HPc.out _ (bthen HB0.out hS.below)) ?_; clear hS; (try clear ww); intro ww hS) | (refine w_ld rfl _ rfl (by rfl) (by first | exact rd_1 (by repeat constructor) (by first | rfl | assumption) | exact rd_w (by repeat constructor) (by rfl) | exact rd_o (by assumption) (by rfl) (by first | exact nmn | assumption | simp) | exact rd_h (by assumption) (by rfl) (by first | exact nmn | assumption | simp) | exact rd_1o (by assumption) (by first | exact nmn | assumption | simp) | exact rd_1h (by assumption) (by first | rfl | assumption) (by first | exact nmn | assumption | simp)) hS ?_) | (refine own_box rfl _ _ rfl (by rfl) hS ?_; clear hS; (try clear ww); intro bb ww hS) | (refine w_al rfl rfl hS ?_; clear hS; (try clear ww); intro bb ww hS) | (refine w_st rfl _ _ rfl (by rfl) (by rfl) (by repeat constructor) (by rfl) (by rfl) (by first | rfl | assumption) hS ?_; clear hS; (try clear ww); intro ww hS) | (refine w_s1 rfl _ _ rfl (by rfl) (by repeat constructor) (by first | exact .c | exact .t rfl) (by rfl) (by repeat constructor) hS ?_; clear hS; (try clear ww); intro ww hS))
  (try simp only [Act.put]); (try simp only [List.setIfInBounds_toArray]); (try simp only [List.set_cons_succ]); (try simp only [List.set_cons_zero])
  refine own_region hS (by kernel_rfl) (by kernel_rfl) ?_
  (try simp only [List.append])
  (try simp only); (try simp only [List.drop_succ_cons]); (try simp only [List.drop_zero]); (try simp only [List.take_succ_cons]); (try simp only [List.take_zero])
  repeat (first
      | (first | (refine quiet_plain rfl ?_) | (refine quiet_yes rfl rfl rfl (by simp only [List.getElem?_toArray, List.getElem?_cons_succ, List.getElem?_cons_zero]; rfl) (by with_reducible constructor) ?_)
         apply Exists.intro; refine ⟨?_, ?_⟩
         focus (intro wq hq0; have hq : Own _ _ _ wq := hq0; first | (exact quietAt_rd rfl (by rfl) (by first | exact rd_1 (by repeat constructor) (by first | rfl | assumption) | exact rd_w (by repeat constructor) (by rfl) | exact rd_o (by assumption) (by rfl) (by first | exact nmn | assumption | simp) | exact rd_h (by assumption) (by rfl) (by first | exact nmn | assumption | simp) | exact rd_1o (by assumption) (by first | exact nmn | assumption | simp) | exact rd_1h (by assumption) (by first | rfl | assumption) (by first | exact nmn | assumption | simp)) hq) | (go_simp; first | (go_at_call 64; exact quietG hq (HQU.out _)) | (with_reducible rfl)))
         simp only [Act.put, List.setIfInBounds_toArray, List.set_cons_zero, List.set_cons_succ])
      | (refine quiet_no rfl rfl rfl (by simp only [List.getElem?_toArray, List.getElem?_cons_succ, List.getElem?_cons_zero]; rfl) (by with_reducible constructor) ?_; simp only [Act.put, List.setIfInBounds_toArray, List.set_cons_zero, List.set_cons_succ]))
  refine wpQuiet_nil ?_
  clear hS
  intro ww hS
  go_upto_region 6 with (first | (refine own_unguard (by rfl) ?_) | (go_at_call 70; refine own_calls hS (HX.out _ _ (hS.cell List.not_mem_nil cP)) ?_; clear hS; (try clear ww); intro ww hS) | (go_at_call 64; refine own_calls hS (HM.out _) ?_; clear hS; (try clear ww); intro ww hS) | (go_at_call 71; refine own_calls hS (HSl.out _) ?_; clear hS; (try clear ww); intro ww hS) | (go_at_call 44; refine own_calls hS (HPc.out _ (bthen HB0.out hS.below)) ?_; clear hS; (try clear ww); intro ww hS) | (refine w_ld rfl _ rfl (by rfl) (by first | exact rd_1 (by repeat constructor) (by first | rfl | assumption) | exact rd_w (by repeat constructor) (by rfl) | exact rd_o (by assumption) (by rfl) (by first | exact nmn | assumption | simp) | exact rd_h (by assumption) (by rfl) (by first | exact nmn | assumption | simp) | exact rd_1o (by assumption) (by first | exact nmn | assumption | simp) | exact rd_1h (by assumption) (by first | rfl | assumption) (by first | exact nmn | assumption | simp)) hS ?_) | (refine own_box rfl _ _ rfl (by rfl) hS ?_; clear hS; (try clear ww); intro bb ww hS) | (refine w_al rfl rfl hS ?_; clear hS; (try clear ww); intro bb ww hS) | (refine w_st rfl _ _ rfl (by rfl) (by rfl) (by repeat constructor) (by rfl) (by rfl) (by first | rfl | assumption) hS ?_; clear hS; (try clear ww); intro ww hS) | (refine w_s1 rfl _ _ rfl (by rfl) (by repeat constructor) (by first | exact .c | exact .t rfl) (by rfl) (by repeat constructor) hS ?_; clear hS; (try clear ww); intro ww hS))
  (try simp only [Act.put]); (try simp only [List.setIfInBounds_toArray]); (try simp only [List.set_cons_succ]); (try simp only [List.set_cons_zero])
  refine own_region hS (by kernel_rfl) (by kernel_rfl) ?_
  (try simp only [List.append])
  (try simp only); (try simp only [List.drop_succ_cons]); (try simp only [List.drop_zero]); (try simp only [List.take_succ_cons]); (try simp only [List.take_zero])
  repeat (first
      | (first | (refine quiet_plain rfl ?_) | (refine quiet_yes rfl rfl rfl (by simp only [List.getElem?_toArray, List.getElem?_cons_succ, List.getElem?_cons_zero]; rfl) (by with_reducible constructor) ?_)
         apply Exists.intro; refine ⟨?_, ?_⟩
         focus (intro wq hq0; have hq : Own _ _ _ wq := hq0; first | (exact quietAt_rd rfl (by rfl) (by first | exact rd_1 (by repeat constructor) (by first | rfl | assumption) | exact rd_w (by repeat constructor) (by rfl) | exact rd_o (by assumption) (by rfl) (by first | exact nmn | assumption | simp) | exact rd_h (by assumption) (by rfl) (by first | exact nmn | assumption | simp) | exact rd_1o (by assumption) (by first | exact nmn | assumption | simp) | exact rd_1h (by assumption) (by first | rfl | assumption) (by first | exact nmn | assumption | simp)) hq) | (go_simp; first | (go_at_call 64; exact quietG hq (HQV.out _)) | (with_reducible rfl)))
         simp only [Act.put, List.setIfInBounds_toArray, List.set_cons_zero, List.set_cons_succ])
      | (refine quiet_no rfl rfl rfl (by simp only [List.getElem?_toArray, List.getElem?_cons_succ, List.getElem?_cons_zero]; rfl) (by with_reducible constructor) ?_; simp only [Act.put, List.setIfInBounds_toArray, List.set_cons_zero, List.set_cons_succ]))
  refine wpQuiet_nil ?_
  clear hS
  intro ww hS
  go_wp2_with (first | (refine own_unguard (by rfl) ?_) | (go_at_call 70; refine own_calls hS (HX.out _ _ (hS.cell List.not_mem_nil cP)) ?_; clear hS; (try clear ww); intro ww hS) | (go_at_call 64; refine own_calls hS (HM.out _) ?_; clear hS; (try clear ww); intro ww hS) | (go_at_call 71; refine own_calls hS (HSl.out _) ?_; clear hS; (try clear ww); intro ww hS) | (go_at_call 44; refine own_calls hS (HPc.out _ (bthen HB0.out hS.below)) ?_; clear hS; (try clear ww); intro ww hS) | (refine w_ld rfl _ rfl (by rfl) (by first | exact rd_1 (by repeat constructor) (by first | rfl | assumption) | exact rd_w (by repeat constructor) (by rfl) | exact rd_o (by assumption) (by rfl) (by first | exact nmn | assumption | simp) | exact rd_h (by assumption) (by rfl) (by first | exact nmn | assumption | simp) | exact rd_1o (by assumption) (by first | exact nmn | assumption | simp) | exact rd_1h (by assumption) (by first | rfl | assumption) (by first | exact nmn | assumption | simp)) hS ?_) | (refine own_box rfl _ _ rfl (by rfl) hS ?_; clear hS; (try clear ww); intro bb ww hS) | (refine w_al rfl rfl hS ?_; clear hS; (try clear ww); intro bb ww hS) | (refine w_st rfl _ _ rfl (by rfl) (by rfl) (by repeat constructor) (by rfl) (by rfl) (by first | rfl | assumption) hS ?_; clear hS; (try clear ww); intro ww hS) | (refine w_s1 rfl _ _ rfl (by rfl) (by repeat constructor) (by first | exact .c | exact .t rfl) (by rfl) (by repeat constructor) hS ?_; clear hS; (try clear ww); intro ww hS))
  refine wp_loop_rounds 2 ?_
  rw [rounds_succ]
  go_upto_region 12 with (first | (refine own_unguard (by rfl) ?_) | (go_at_call 70; refine own_calls hS (HX.out _ _ (hS.cell List.not_mem_nil cP)) ?_; clear hS; (try clear ww); intro ww hS) | (go_at_call 64; refine own_calls hS (HM.out _) ?_; clear hS; (try clear ww); intro ww hS) | (go_at_call 71; refine own_calls hS (HSl.out _) ?_; clear hS; (try clear ww); intro ww hS) | (go_at_call 44; refine own_calls hS (HPc.out _ (bthen HB0.out hS.below)) ?_; clear hS; (try clear ww); intro ww hS) | (refine w_ld rfl _ rfl (by rfl) (by first | exact rd_1 (by repeat constructor) (by first | rfl | assumption) | exact rd_w (by repeat constructor) (by rfl) | exact rd_o (by assumption) (by rfl) (by first | exact nmn | assumption | simp) | exact rd_h (by assumption) (by rfl) (by first | exact nmn | assumption | simp) | exact rd_1o (by assumption) (by first | exact nmn | assumption | simp) | exact rd_1h (by assumption) (by first | rfl | assumption) (by first | exact nmn | assumption | simp)) hS ?_) | (refine own_box rfl _ _ rfl (by rfl) hS ?_; clear hS; (try clear ww); intro bb ww hS) | (refine w_al rfl rfl hS ?_; clear hS; (try clear ww); intro bb ww hS) | (refine w_st rfl _ _ rfl (by rfl) (by rfl) (by repeat constructor) (by rfl) (by rfl) (by first | rfl | assumption) hS ?_; clear hS; (try clear ww); intro ww hS) | (refine w_s1 rfl _ _ rfl (by rfl) (by repeat constructor) (by first | exact .c | exact .t rfl) (by rfl) (by repeat constructor) hS ?_; clear hS; (try clear ww); intro ww hS))
  (try simp only [Act.put]); (try simp only [List.setIfInBounds_toArray]); (try simp only [List.set_cons_succ]); (try simp only [List.set_cons_zero])
  refine own_region hS (by kernel_rfl) (by kernel_rfl) ?_
  (try simp only [List.append])
  (try simp only); (try simp only [List.drop_succ_cons]); (try simp only [List.drop_zero]); (try simp only [List.take_succ_cons]); (try simp only [List.take_zero])
  repeat (first
      | (first | (refine quiet_plain rfl ?_) | (refine quiet_yes rfl rfl rfl (by simp only [List.getElem?_toArray, List.getElem?_cons_succ, List.getElem?_cons_zero]; rfl) (by with_reducible constructor) ?_)
         apply Exists.intro; refine ⟨?_, ?_⟩
         focus (intro wq hq0; have hq : Own _ _ _ wq := hq0; first | (exact quietAt_rd rfl (by rfl) (by first | exact rd_1 (by repeat constructor) (by first | rfl | assumption) | exact rd_w (by repeat constructor) (by rfl) | exact rd_o (by assumption) (by rfl) (by first | exact nmn | assumption | simp) | exact rd_h (by assumption) (by rfl) (by first | exact nmn | assumption | simp) | exact rd_1o (by assumption) (by first | exact nmn | assumption | simp) | exact rd_1h (by assumption) (by first | rfl | assumption) (by first | exact nmn | assumption | simp)) hq) | (go_simp; first | (go_at_call 70; exact quietG hq (HR.out _ _ (hq.cell List.not_mem_nil cP))) | (go_at_call 72; exact quietG hq (HRs.out _)) | (go_at_call 64; exact quietG hq (HN.out _)) | (with_reducible rfl)))
         simp only [Act.put, List.setIfInBounds_toArray, List.set_cons_zero, List.set_cons_succ])
      | (refine quiet_no rfl rfl rfl (by simp only [List.getElem?_toArray, List.getElem?_cons_succ, List.getElem?_cons_zero]; rfl) (by with_reducible constructor) ?_; simp only [Act.put, List.setIfInBounds_toArray, List.set_cons_zero, List.set_cons_succ]))
  refine wpQuiet_nil ?_
  clear hS
  intro ww hS
  go_wp2_with (first | (refine own_unguard (by rfl) ?_) | (go_at_call 70; refine own_calls hS (HX.out _ _ (hS.cell List.not_mem_nil cP)) ?_; clear hS; (try clear ww); intro ww hS) | (go_at_call 64; refine own_calls hS (HM.out _) ?_; clear hS; (try clear ww); intro ww hS) | (go_at_call 71; refine own_calls hS (HSl.out _) ?_; clear hS; (try clear ww); intro ww hS) | (go_at_call 44; refine own_calls hS (HPc.out _ (bthen HB0.out hS.below)) ?_; clear hS; (try clear ww); intro ww hS) | (refine w_ld rfl _ rfl (by rfl) (by first | exact rd_1 (by repeat constructor) (by first | rfl | assumption) | exact rd_w (by repeat constructor) (by rfl) | exact rd_o (by assumption) (by rfl) (by first | exact nmn | assumption | simp) | exact rd_h (by assumption) (by rfl) (by first | exact nmn | assumption | simp) | exact rd_1o (by assumption) (by first | exact nmn | assumption | simp) | exact rd_1h (by assumption) (by first | rfl | assumption) (by first | exact nmn | assumption | simp)) hS ?_) | (refine own_box rfl _ _ rfl (by rfl) hS ?_; clear hS; (try clear ww); intro bb ww hS) | (refine w_al rfl rfl hS ?_; clear hS; (try clear ww); intro bb ww hS) | (refine w_st rfl _ _ rfl (by rfl) (by rfl) (by repeat constructor) (by rfl) (by rfl) (by first | rfl | assumption) hS ?_; clear hS; (try clear ww); intro ww hS) | (refine w_s1 rfl _ _ rfl (by rfl) (by repeat constructor) (by first | exact .c | exact .t rfl) (by rfl) (by repeat constructor) hS ?_; clear hS; (try clear ww); intro ww hS))
  rw [rounds_succ]
  go_wp2_with (first | (refine own_unguard (by rfl) ?_) | (go_at_call 70; refine own_calls hS (HX.out _ _ (hS.cell List.not_mem_nil cP)) ?_; clear hS; (try clear ww); intro ww hS) | (go_at_call 64; refine own_calls hS (HM.out _) ?_; clear hS; (try clear ww); intro ww hS) | (go_at_call 71; refine own_calls hS (HSl.out _) ?_; clear hS; (try clear ww); intro ww hS) | (go_at_call 44; refine own_calls hS (HPc.out _ (bthen HB0.out hS.below)) ?_; clear hS; (try clear ww); intro ww hS) | (refine w_ld rfl _ rfl (by rfl) (by first | exact rd_1 (by repeat constructor) (by first | rfl | assumption) | exact rd_w (by repeat constructor) (by rfl) | exact rd_o (by assumption) (by rfl) (by first | exact nmn | assumption | simp) | exact rd_h (by assumption) (by rfl) (by first | exact nmn | assumption | simp) | exact rd_1o (by assumption) (by first | exact nmn | assumption | simp) | exact rd_1h (by assumption) (by first | rfl | assumption) (by first | exact nmn | assumption | simp)) hS ?_) | (refine own_box rfl _ _ rfl (by rfl) hS ?_; clear hS; (try clear ww); intro bb ww hS) | (refine w_al rfl rfl hS ?_; clear hS; (try clear ww); intro bb ww hS) | (refine w_st rfl _ _ rfl (by rfl) (by rfl) (by repeat constructor) (by rfl) (by rfl) (by first | rfl | assumption) hS ?_; clear hS; (try clear ww); intro ww hS) | (refine w_s1 rfl _ _ rfl (by rfl) (by repeat constructor) (by first | exact .c | exact .t rfl) (by rfl) (by repeat constructor) hS ?_; clear hS; (try clear ww); intro ww hS))
  refine bodyPost_ret (v := .tuple #[.int .i64 U, .int .i64 (d + QV)]) (by simp [results, Try.results46, go_sem]) rfl ⟨rfl, bthen HB0.out hS.below⟩

set_option maxHeartbeats 16000000 in
set_option maxRecDepth 100000 in
theorem shifts_c110 (F : Fnt) (l p : Int) (c : Bool) (n : Nat) (h d : Int) (b : Bx (n + 1)) (c0 c1 c2 c3 c6 c7 c8 c9 c10 : Value) (w : World) (sk so : Nat) (s0 s1 s2 s3 s5 s6 s7 s8 s9 s10 : Value) (sh : Int) (uk uo : Nat) (u0 u1 u2 u3 u4 u6 u7 u8 u9 u10 : Value) (ud : Int) (sc uc : Nat) (X M R N S2 r q QU QV : Int) (U : Int) (V : Int) (hr : Rep w (n + 1) b [c0, c1, c2, c3, .int .i64 h, .int .i64 d, c6, c7, c8, c9, c10]) (bh : -1073741824 ≤ h ∧ h ≤ 1073741824) (bd : -1073741824 ≤ d ∧ d ≤ 1073741824) (hF : FntOk w F) (hv : ValidF F) (hi : innerS (n + 1) b = none) (hl : 0 ≤ l ∧ l ≤ 3) (hs : w.rangeAt sk so [s0, s1, s2, s3, .int .i64 sh, s5, s6, s7, s8, s9, s10]) (bs : -1073741824 ≤ sh ∧ sh ≤ 1073741824) (hu : w.rangeAt uk uo [u0, u1, u2, u3, u4, .int .i64 ud, u6, u7, u8, u9, u10]) (ha : ([u0, u1, u2, u3, u4, .int .i64 ud, u6, u7, u8, u9, u10] : List Value).all (·.oneCell') = true) (bu : -1073741824 ≤ ud ∧ ud ≤ 1073741824) (eX : X = scl F.xheight p) (eM : M = scl X 80) (eR : R = scl (raiseP F l c) p) (eN : N = scl X 25) (eS2 : S2 = scl F.sub2 p) (er : r = scl F.rule p) (eq : q = sizeOf' F (2 + l / 2)) (eQU : QU = scl F.supdrop q) (eQV : QV = scl F.subdrop q) (eU : U = max (max (h - QU) R) (ud + N)) (eV : V = max (d + QV) S2) (hg : ¬ ((U - ud) - (sh - V)) < 4 * r) (_bX : 0 ≤ X ∧ X ≤ 20000) (_bM : 0 ≤ M ∧ M ≤ 20000) (bR : 0 ≤ R ∧ R ≤ 20000) (bN : 0 ≤ N ∧ N ≤ 20000) (bS2 : 0 ≤ S2 ∧ S2 ≤ 20000) (br : 0 ≤ r ∧ r ≤ 20000) (bQU : 0 ≤ QU ∧ QU ≤ 20000) (bQV : 0 ≤ QV ∧ QV ≤ 20000) :
    Calls Try.prog 46 #[F.val, .agg #[.int .i64 l, .bool c], .int .i64 p, .agg #[c0, c1, c2, c3, .int .i64 h, .int .i64 d, c6, c7, c8, c9, c10], .slice (some ⟨sk, so, none⟩) 1 sc, .slice (some ⟨uk, uo, none⟩) 1 uc] w (Gives (.tuple #[.int .i64 U, .int .i64 V]) w) := by
  have HI := Lib.hid (fun w' k (h : Below w.heap.size w w') (hk : w'.rangeAt k 0 [c0, c1, c2, c3, .int .i64 _, .int .i64 _, c6, c7, c8, c9, c10]) => innermost_calls (fun k => k < w.heap.size) (n + 1) b _ k 0 w' hk (RepG.step h (n + 1) b _ (rep_old (n + 1) b _ hr)))
  rw [hi] at HI
  have HX := Lib.hid (fun (w' : World) (b : Nat) (hc : w'.cell? ⟨b, 0, none⟩ = some (.int .i64 p)) => show Calls Try.prog 70 #[.int .i64 F.xheight, .pointer (some ⟨b, 0, none⟩)] w' (Gives (.int .i64 X) w') by rw [eX]; exact shifts1_calls _ _ _ _ hc)
  have HM := Lib.hid (fun (w' : World) => show Calls Try.prog 64 #[.int .i64 X, .int .i64 80] w' (Gives (.int .i64 M) w') by rw [eM]; exact length_Scale_gives _ _ _)
  have HN := Lib.hid (fun (w' : World) => show Calls Try.prog 64 #[.int .i64 X, .int .i64 25] w' (Gives (.int .i64 N) w') by rw [eN]; exact length_Scale_gives _ _ _)
  have HR := Lib.hid (fun (w' : World) (b : Nat) (hc : w'.cell? ⟨b, 0, none⟩ = some (.int .i64 p)) => show Calls Try.prog 70 #[.int .i64 (raiseP F l c), .pointer (some ⟨b, 0, none⟩)] w' (Gives (.int .i64 R) w') by rw [eR]; exact shifts1_calls _ _ _ _ hc)
  have HRs := Lib.hid (fun (w' : World) => raise_calls F l c w' (by omega))
  have HS2 := Lib.hid (fun (w' : World) (b : Nat) (hc : w'.cell? ⟨b, 0, none⟩ = some (.int .i64 p)) => show Calls Try.prog 70 #[.int .i64 F.sub2, .pointer (some ⟨b, 0, none⟩)] w' (Gives (.int .i64 S2) w') by rw [eS2]; exact shifts1_calls _ _ _ _ hc)
  have Hr := Lib.hid (fun (w' : World) (b : Nat) (hc : w'.cell? ⟨b, 0, none⟩ = some (.int .i64 p)) => show Calls Try.prog 70 #[.int .i64 F.rule, .pointer (some ⟨b, 0, none⟩)] w' (Gives (.int .i64 r) w') by rw [er]; exact shifts1_calls _ _ _ _ hc)
  have HSl := Lib.hid (fun (w' : World) => show Calls Try.prog 71 #[.int .i64 8, .int .i64 1, .agg #[.int .i64 l, .bool c]] w' (Gives (.tuple #[.agg #[.int .i64 (2 + l / 2), .bool c], .int .i64 0]) w') by
    cases c
    · exact slot_8_1_false l w' hl.1 hl.2
    · exact slot_8_1_true l w' hl.1 hl.2)
  have HPc := Lib.hid (fun (w' : World) (h : Below w.heap.size w w') => show Calls Try.prog 44 #[F.val, .agg #[.int .i64 (2 + l / 2), .bool c]] w' (Gives (.tuple #[.int .i64 q, .int .i64 0]) w') by
    rw [eq]
    exact style_Percent_calls F (2 + l / 2) _ 0 c w' (hF.below h) ⟨fun _ => ⟨rfl, rfl⟩, fun h => by
      rcases h with h | h
      · simp [lvlOk] at h; omega
      · exact absurd hv h⟩)
  have HQU := Lib.hid (fun (w' : World) => show Calls Try.prog 64 #[.int .i64 F.supdrop, .int .i64 q] w' (Gives (.int .i64 QU) w') by rw [eQU]; exact length_Scale_gives _ _ _)
  have HQV := Lib.hid (fun (w' : World) => show Calls Try.prog 64 #[.int .i64 F.subdrop, .int .i64 q] w' (Gives (.int .i64 QV) w') by rw [eQV]; exact length_Scale_gives _ _ _)
  generalize 2 + l / 2 = l2 at *
  have hmu := fun (w : World) (ts : Array TypeId) (t : TypeId) => eU ▸ run_max3 (P := Try.prog) (h - QU) R (ud + N) w ts t
  have hmv := fun (w : World) (ts : Array TypeId) (t : TypeId) => eV ▸ run_max2 (P := Try.prog) (d + QV) S2 w ts t
  have bU : -3000000000 ≤ U ∧ U ≤ 3000000000 := by omega
  have bV : -3000000000 ≤ V ∧ V ≤ 3000000000 := by omega
  have i0 : IntKind.i64.wrap (h - QU) = h - QU := IntWalk.i64_in _ (by omega)
  have i1 : IntKind.i64.wrap (d + QV) = d + QV := IntWalk.i64_in _ (by omega)
  have i2 : IntKind.i64.wrap (ud + N) = ud + N := IntWalk.i64_in _ (by omega)
  have i3 : IntKind.i64.wrap (U - ud) = U - ud := IntWalk.i64_in _ (by omega)
  have i4 : IntKind.i64.wrap (sh - V) = sh - V := IntWalk.i64_in _ (by omega)
  have i5 : IntKind.i64.wrap ((U - ud) - (sh - V)) = (U - ud) - (sh - V) := IntWalk.i64_in _ (by omega)
  have i6 : IntKind.i64.wrap (4 * r) = 4 * r := IntWalk.i64_in _ (by omega)
  have t1 : decide ((U - ud) - (sh - V) < 4 * r) = false := decide_eq_false hg
  have HH := Lib.hid hr
  clear hr hi bh bd hl eX eM eR eN eS2 er eq eQU eQV _bX _bM bR bN bS2 br bQU bQV hF hv eU bU bu eV bV bs hg
  go_enter Try.func46, Try.ntmps46
  have hS := own_start w
  go_upto_region 1 with (first | (refine own_unguard (by rfl) ?_) | (refine own_box1 (v := .int .i64 p) rfl _ _ rfl rfl rfl hS ?_; clear hS; (try clear ww); intro bb ww hS) | (refine w_ld rfl _ rfl (by rfl) (by first | exact rd_1 (by repeat constructor) (by first | rfl | assumption) | exact rd_w (by repeat constructor) (by rfl) | exact rd_o (by assumption) (by rfl) (by first | exact nmn | assumption | simp) | exact rd_h (by assumption) (by rfl) (by first | exact nmn | assumption | simp) | exact rd_1o (by assumption) (by first | exact nmn | assumption | simp) | exact rd_1h (by assumption) (by first | rfl | assumption) (by first | exact nmn | assumption | simp)) hS ?_) | (refine own_box rfl _ _ rfl (by rfl) hS ?_; clear hS; (try clear ww); intro bb ww hS) | (refine w_al rfl rfl hS ?_; clear hS; (try clear ww); intro bb ww hS) | (refine w_st rfl _ _ rfl (by rfl) (by rfl) (by repeat constructor) (by rfl) (by rfl) (by first | rfl | assumption) hS ?_; clear hS; (try clear ww); intro ww hS) | (refine w_s1 rfl _ _ rfl (by rfl) (by repeat constructor) (by first | exact .c | exact .t rfl) (by rfl) (by repeat constructor) hS ?_; clear hS; (try clear ww); intro ww hS))
  have rF := (hS.get at3).range
  have rS := (hS.get at2).range
  have cP := (hS.get at1).cell 0
  simp only [List.getElem?_cons_zero] at cP
  have rB := (hS.get at0).range
  have HB0 := Lib.hid hS.below
  obtain ⟨rP, p3, p5, p13, p14, p15, p16⟩ := fnt_cells rF
  obtain ⟨bc4, bc5⟩ := box_cells0 rB
  have hs0 := hS.range List.not_mem_nil hs
  have s4 := hs0 4 _ rfl
  clear hs
  have hu0 := hS.range List.not_mem_nil hu
  have u5 := hu0 5 _ rfl
  clear hu
  clear hS
  have hS := own_start ww
  go_wp2_with (first | (refine own_unguard (by rfl) ?_) | (go_at_call 28; fail) | (refine w_ld rfl _ rfl (by rfl) (by first | exact rd_1 (by repeat constructor) (by first | rfl | assumption) | exact rd_w (by repeat constructor) (by rfl) | exact rd_o (by assumption) (by rfl) (by first | exact nmn | assumption | simp) | exact rd_h (by assumption) (by rfl) (by first | exact nmn | assumption | simp) | exact rd_1o (by assumption) (by first | exact nmn | assumption | simp) | exact rd_1h (by assumption) (by first | rfl | assumption) (by first | exact nmn | assumption | simp)) hS ?_) | (refine own_box rfl _ _ rfl (by rfl) hS ?_; clear hS; (try clear ww); intro bb ww hS) | (refine w_al rfl rfl hS ?_; clear hS; (try clear ww); intro bb ww hS) | (refine w_st rfl _ _ rfl (by rfl) (by rfl) (by repeat constructor) (by rfl) (by rfl) (by first | rfl | assumption) hS ?_; clear hS; (try clear ww); intro ww hS) | (refine w_s1 rfl _ _ rfl (by rfl) (by repeat constructor) (by first | exact .c | exact .t rfl) (by rfl) (by repeat constructor) hS ?_; clear hS; (try clear ww); intro ww hS))
  go_at_call 28
  refine Calls.mono (HI.out _ _ (bthen HB0.out hS.below) (hS.range List.not_mem_nil rB)) ?_
  rintro e w1 ⟨v, rfl, hv, hb1⟩
  obtain rfl : v = _ := hv
  have hS1 := hS.step hb1
  clear hS hb1
  (try clear ww)
  have hS := hS1
  clear hS1
  go_upto_region 5 with (first | (refine own_unguard (by rfl) ?_) | (go_at_call 70; refine own_calls hS (HX.out _ _ (hS.cell List.not_mem_nil cP)) ?_; clear hS; (try clear ww); intro ww hS) | (go_at_call 70; refine own_calls hS (HS2.out _ _ (hS.cell List.not_mem_nil cP)) ?_; clear hS; (try clear ww); intro ww hS) | (go_at_call 70; refine own_calls hS (Hr.out _ _ (hS.cell List.not_mem_nil cP)) ?_; clear hS; (try clear ww); intro ww hS) | (go_at_call 64; refine own_calls hS (HM.out _) ?_; clear hS; (try clear ww); intro ww hS) | (go_at_call 71; refine own_calls hS (HSl.out _) ?_; clear hS; (try clear ww); intro ww hS) | (go_at_call 44; refine own_calls hS (HPc.out _ (bthen HB0.out hS.below)) ?_; clear hS; (try clear ww); intro ww hS) | (refine w_ld rfl _ rfl (by rfl) (by first | exact rd_1 (by repeat constructor) (by first | rfl | assumption) | exact rd_w (by repeat constructor) (by rfl) | exact rd_o (by assumption) (by rfl) (by first | exact nmn | assumption | simp) | exact rd_h (by assumption) (by rfl) (by first | exact nmn | assumption | simp) | exact rd_1o (by assumption) (by first | exact nmn | assumption | simp) | exact rd_1h (by assumption) (by first | rfl | assumption) (by first | exact nmn | assumption | simp)) hS ?_) | (refine own_box rfl _ _ rfl (by rfl) hS ?_; clear hS; (try clear ww); intro bb ww hS) | (refine w_al rfl rfl hS ?_; clear hS; (try clear ww); intro bb ww hS) | (refine w_st rfl _ _ rfl (by rfl) (by rfl) (by repeat constructor) (by rfl) (by rfl) (by first | rfl | assumption) hS ?_; clear hS; (try clear ww); intro ww hS) | (refine w_s1 rfl _ _ rfl (by rfl) (by repeat constructor) (by first | exact .c | exact .t rfl) (by rfl) (by repeat constructor) hS ?_; clear hS; (try clear ww); intro ww hS))
  (try simp only [Act.put]); (try simp only [List.setIfInBounds_toArray]); (try simp only [List.set_cons_succ]); (try simp only [List.set_cons_zero])
  refine own_region hS (by kernel_rfl) (by kernel_rfl) ?_
  (try simp only [List.append])
  (try simp only); (try simp only [List.drop_succ_cons]); (try simp only [List.drop_zero]); (try simp only [List.take_succ_cons]); (try simp only [List.take_zero])
  repeat (first
      | (first | (refine quiet_plain rfl ?_) | (refine quiet_yes rfl rfl rfl (by simp only [List.getElem?_toArray, List.getElem?_cons_succ, List.getElem?_cons_zero]; rfl) (by with_reducible constructor) ?_)
         apply Exists.intro; refine ⟨?_, ?_⟩
         focus (intro wq hq0; have hq : Own _ _ _ wq := hq0; first | (exact quietAt_rd rfl (by rfl) (by first | exact rd_1 (by repeat constructor) (by first | rfl | assumption) | exact rd_w (by repeat constructor) (by rfl) | exact rd_o (by assumption) (by rfl) (by first | exact nmn | assumption | simp) | exact rd_h (by assumption) (by rfl) (by first | exact nmn | assumption | simp) | exact rd_1o (by assumption) (by first | exact nmn | assumption | simp) | exact rd_1h (by assumption) (by first | rfl | assumption) (by first | exact nmn | assumption | simp)) hq) | (go_simp; first | (go_at_call 64; exact quietG hq (HQU.out _)) | (with_reducible rfl)))
         simp only [Act.put, List.setIfInBounds_toArray, List.set_cons_zero, List.set_cons_succ])
      | (refine quiet_no rfl rfl rfl (by simp only [List.getElem?_toArray, List.getElem?_cons_succ, List.getElem?_cons_zero]; rfl) (by with_reducible constructor) ?_; simp only [Act.put, List.setIfInBounds_toArray, List.set_cons_zero, List.set_cons_succ]))
  refine wpQuiet_nil ?_
  clear hS
  intro ww hS
  go_upto_region 6 with (first | (refine own_unguard (by rfl) ?_) | (go_at_call 70; refine own_calls hS (HX.out _ _ (hS.cell List.not_mem_nil cP)) ?_; clear hS; (try clear ww); intro ww hS) | (go_at_call 70; refine own_calls hS (HS2.out _ _ (hS.cell List.not_mem_nil cP)) ?_; clear hS; (try clear ww); intro ww hS) | (go_at_call 70; refine own_calls hS (Hr.out _ _ (hS.cell List.not_mem_nil cP)) ?_; clear hS; (try clear ww); intro ww hS) | (go_at_call 64; refine own_calls hS (HM.out _) ?_; clear hS; (try clear ww); intro ww hS) | (go_at_call 71; refine own_calls hS (HSl.out _) ?_; clear hS; (try clear ww); intro ww hS) | (go_at_call 44; refine own_calls hS (HPc.out _ (bthen HB0.out hS.below)) ?_; clear hS; (try clear ww); intro ww hS) | (refine w_ld rfl _ rfl (by rfl) (by first | exact rd_1 (by repeat constructor) (by first | rfl | assumption) | exact rd_w (by repeat constructor) (by rfl) | exact rd_o (by assumption) (by rfl) (by first | exact nmn | assumption | simp) | exact rd_h (by assumption) (by rfl) (by first | exact nmn | assumption | simp) | exact rd_1o (by assumption) (by first | exact nmn | assumption | simp) | exact rd_1h (by assumption) (by first | rfl | assumption) (by first | exact nmn | assumption | simp)) hS ?_) | (refine own_box rfl _ _ rfl (by rfl) hS ?_; clear hS; (try clear ww); intro bb ww hS) | (refine w_al rfl rfl hS ?_; clear hS; (try clear ww); intro bb ww hS) | (refine w_st rfl _ _ rfl (by rfl) (by rfl) (by repeat constructor) (by rfl) (by rfl) (by first | rfl | assumption) hS ?_; clear hS; (try clear ww); intro ww hS) | (refine w_s1 rfl _ _ rfl (by rfl) (by repeat constructor) (by first | exact .c | exact .t rfl) (by rfl) (by repeat constructor) hS ?_; clear hS; (try clear ww); intro ww hS))
  (try simp only [Act.put]); (try simp only [List.setIfInBounds_toArray]); (try simp only [List.set_cons_succ]); (try simp only [List.set_cons_zero])
  refine own_region hS (by kernel_rfl) (by kernel_rfl) ?_
  (try simp only [List.append])
  (try simp only); (try simp only [List.drop_succ_cons]); (try simp only [List.drop_zero]); (try simp only [List.take_succ_cons]); (try simp only [List.take_zero])
  repeat (first
      | (first | (refine quiet_plain rfl ?_) | (refine quiet_yes rfl rfl rfl (by simp only [List.getElem?_toArray, List.getElem?_cons_succ, List.getElem?_cons_zero]; rfl) (by with_reducible constructor) ?_)
         apply Exists.intro; refine ⟨?_, ?_⟩
         focus (intro wq hq0; have hq : Own _ _ _ wq := hq0; first | (exact quietAt_rd rfl (by rfl) (by first | exact rd_1 (by repeat constructor) (by first | rfl | assumption) | exact rd_w (by repeat constructor) (by rfl) | exact rd_o (by assumption) (by rfl) (by first | exact nmn | assumption | simp) | exact rd_h (by assumption) (by rfl) (by first | exact nmn | assumption | simp) | exact rd_1o (by assumption) (by first | exact nmn | assumption | simp) | exact rd_1h (by assumption) (by first | rfl | assumption) (by first | exact nmn | assumption | simp)) hq) | (go_simp; first | (go_at_call 64; exact quietG hq (HQV.out _)) | (with_reducible rfl)))
         simp only [Act.put, List.setIfInBounds_toArray, List.set_cons_zero, List.set_cons_succ])
      | (refine quiet_no rfl rfl rfl (by simp only [List.getElem?_toArray, List.getElem?_cons_succ, List.getElem?_cons_zero]; rfl) (by with_reducible constructor) ?_; simp only [Act.put, List.setIfInBounds_toArray, List.set_cons_zero, List.set_cons_succ]))
  refine wpQuiet_nil ?_
  clear hS
  intro ww hS
  go_wp2_with (first | (refine own_unguard (by rfl) ?_) | (go_at_call 70; refine own_calls hS (HX.out _ _ (hS.cell List.not_mem_nil cP)) ?_; clear hS; (try clear ww); intro ww hS) | (go_at_call 70; refine own_calls hS (HS2.out _ _ (hS.cell List.not_mem_nil cP)) ?_; clear hS; (try clear ww); intro ww hS) | (go_at_call 70; refine own_calls hS (Hr.out _ _ (hS.cell List.not_mem_nil cP)) ?_; clear hS; (try clear ww); intro ww hS) | (go_at_call 64; refine own_calls hS (HM.out _) ?_; clear hS; (try clear ww); intro ww hS) | (go_at_call 71; refine own_calls hS (HSl.out _) ?_; clear hS; (try clear ww); intro ww hS) | (go_at_call 44; refine own_calls hS (HPc.out _ (bthen HB0.out hS.below)) ?_; clear hS; (try clear ww); intro ww hS) | (refine w_ld rfl _ rfl (by rfl) (by first | exact rd_1 (by repeat constructor) (by first | rfl | assumption) | exact rd_w (by repeat constructor) (by rfl) | exact rd_o (by assumption) (by rfl) (by first | exact nmn | assumption | simp) | exact rd_h (by assumption) (by rfl) (by first | exact nmn | assumption | simp) | exact rd_1o (by assumption) (by first | exact nmn | assumption | simp) | exact rd_1h (by assumption) (by first | rfl | assumption) (by first | exact nmn | assumption | simp)) hS ?_) | (refine own_box rfl _ _ rfl (by rfl) hS ?_; clear hS; (try clear ww); intro bb ww hS) | (refine w_al rfl rfl hS ?_; clear hS; (try clear ww); intro bb ww hS) | (refine w_st rfl _ _ rfl (by rfl) (by rfl) (by repeat constructor) (by rfl) (by rfl) (by first | rfl | assumption) hS ?_; clear hS; (try clear ww); intro ww hS) | (refine w_s1 rfl _ _ rfl (by rfl) (by repeat constructor) (by first | exact .c | exact .t rfl) (by rfl) (by repeat constructor) hS ?_; clear hS; (try clear ww); intro ww hS))
  refine wp_loop_rounds 2 ?_
  rw [rounds_succ]
  go_upto_region 12 with (first | (refine own_unguard (by rfl) ?_) | (go_at_call 70; refine own_calls hS (HX.out _ _ (hS.cell List.not_mem_nil cP)) ?_; clear hS; (try clear ww); intro ww hS) | (go_at_call 70; refine own_calls hS (HS2.out _ _ (hS.cell List.not_mem_nil cP)) ?_; clear hS; (try clear ww); intro ww hS) | (go_at_call 70; refine own_calls hS (Hr.out _ _ (hS.cell List.not_mem_nil cP)) ?_; clear hS; (try clear ww); intro ww hS) | (go_at_call 64; refine own_calls hS (HM.out _) ?_; clear hS; (try clear ww); intro ww hS) | (go_at_call 71; refine own_calls hS (HSl.out _) ?_; clear hS; (try clear ww); intro ww hS) | (go_at_call 44; refine own_calls hS (HPc.out _ (bthen HB0.out hS.below)) ?_; clear hS; (try clear ww); intro ww hS) | (refine w_ld rfl _ rfl (by rfl) (by first | exact rd_1 (by repeat constructor) (by first | rfl | assumption) | exact rd_w (by repeat constructor) (by rfl) | exact rd_o (by assumption) (by rfl) (by first | exact nmn | assumption | simp) | exact rd_h (by assumption) (by rfl) (by first | exact nmn | assumption | simp) | exact rd_1o (by assumption) (by first | exact nmn | assumption | simp) | exact rd_1h (by assumption) (by first | rfl | assumption) (by first | exact nmn | assumption | simp)) hS ?_) | (refine own_box rfl _ _ rfl (by rfl) hS ?_; clear hS; (try clear ww); intro bb ww hS) | (refine w_al rfl rfl hS ?_; clear hS; (try clear ww); intro bb ww hS) | (refine w_st rfl _ _ rfl (by rfl) (by rfl) (by repeat constructor) (by rfl) (by rfl) (by first | rfl | assumption) hS ?_; clear hS; (try clear ww); intro ww hS) | (refine w_s1 rfl _ _ rfl (by rfl) (by repeat constructor) (by first | exact .c | exact .t rfl) (by rfl) (by repeat constructor) hS ?_; clear hS; (try clear ww); intro ww hS))
  (try simp only [Act.put]); (try simp only [List.setIfInBounds_toArray]); (try simp only [List.set_cons_succ]); (try simp only [List.set_cons_zero])
  refine own_region hS (by kernel_rfl) (by kernel_rfl) ?_
  (try simp only [List.append])
  (try simp only); (try simp only [List.drop_succ_cons]); (try simp only [List.drop_zero]); (try simp only [List.take_succ_cons]); (try simp only [List.take_zero])
  repeat (first
      | (first | (refine quiet_plain rfl ?_) | (refine quiet_yes rfl rfl rfl (by simp only [List.getElem?_toArray, List.getElem?_cons_succ, List.getElem?_cons_zero]; rfl) (by with_reducible constructor) ?_)
         apply Exists.intro; refine ⟨?_, ?_⟩
         focus (intro wq hq0; have hq : Own _ _ _ wq := hq0; first | (exact quietAt_rd rfl (by rfl) (by first | exact rd_1 (by repeat constructor) (by first | rfl | assumption) | exact rd_w (by repeat constructor) (by rfl) | exact rd_o (by assumption) (by rfl) (by first | exact nmn | assumption | simp) | exact rd_h (by assumption) (by rfl) (by first | exact nmn | assumption | simp) | exact rd_1o (by assumption) (by first | exact nmn | assumption | simp) | exact rd_1h (by assumption) (by first | rfl | assumption) (by first | exact nmn | assumption | simp)) hq) | (go_simp; first | (go_at_call 70; exact quietG hq (HR.out _ _ (hq.cell List.not_mem_nil cP))) | (go_at_call 72; exact quietG hq (HRs.out _)) | (go_at_call 64; exact quietG hq (HN.out _)) | (with_reducible rfl)))
         simp only [Act.put, List.setIfInBounds_toArray, List.set_cons_zero, List.set_cons_succ])
      | (refine quiet_no rfl rfl rfl (by simp only [List.getElem?_toArray, List.getElem?_cons_succ, List.getElem?_cons_zero]; rfl) (by with_reducible constructor) ?_; simp only [Act.put, List.setIfInBounds_toArray, List.set_cons_zero, List.set_cons_succ]))
  refine wpQuiet_nil ?_
  clear hS
  intro ww hS
  go_wp2_with (first | (refine own_unguard (by rfl) ?_) | (go_at_call 70; refine own_calls hS (HX.out _ _ (hS.cell List.not_mem_nil cP)) ?_; clear hS; (try clear ww); intro ww hS) | (go_at_call 70; refine own_calls hS (HS2.out _ _ (hS.cell List.not_mem_nil cP)) ?_; clear hS; (try clear ww); intro ww hS) | (go_at_call 70; refine own_calls hS (Hr.out _ _ (hS.cell List.not_mem_nil cP)) ?_; clear hS; (try clear ww); intro ww hS) | (go_at_call 64; refine own_calls hS (HM.out _) ?_; clear hS; (try clear ww); intro ww hS) | (go_at_call 71; refine own_calls hS (HSl.out _) ?_; clear hS; (try clear ww); intro ww hS) | (go_at_call 44; refine own_calls hS (HPc.out _ (bthen HB0.out hS.below)) ?_; clear hS; (try clear ww); intro ww hS) | (refine w_ld rfl _ rfl (by rfl) (by first | exact rd_1 (by repeat constructor) (by first | rfl | assumption) | exact rd_w (by repeat constructor) (by rfl) | exact rd_o (by assumption) (by rfl) (by first | exact nmn | assumption | simp) | exact rd_h (by assumption) (by rfl) (by first | exact nmn | assumption | simp) | exact rd_1o (by assumption) (by first | exact nmn | assumption | simp) | exact rd_1h (by assumption) (by first | rfl | assumption) (by first | exact nmn | assumption | simp)) hS ?_) | (refine own_box rfl _ _ rfl (by rfl) hS ?_; clear hS; (try clear ww); intro bb ww hS) | (refine w_al rfl rfl hS ?_; clear hS; (try clear ww); intro bb ww hS) | (refine w_st rfl _ _ rfl (by rfl) (by rfl) (by repeat constructor) (by rfl) (by rfl) (by first | rfl | assumption) hS ?_; clear hS; (try clear ww); intro ww hS) | (refine w_s1 rfl _ _ rfl (by rfl) (by repeat constructor) (by first | exact .c | exact .t rfl) (by rfl) (by repeat constructor) hS ?_; clear hS; (try clear ww); intro ww hS))
  rw [rounds_succ]
  go_wp2_with (first | (refine own_unguard (by rfl) ?_) | (go_at_call 70; refine own_calls hS (HX.out _ _ (hS.cell List.not_mem_nil cP)) ?_; clear hS; (try clear ww); intro ww hS) | (go_at_call 70; refine own_calls hS (HS2.out _ _ (hS.cell List.not_mem_nil cP)) ?_; clear hS; (try clear ww); intro ww hS) | (go_at_call 70; refine own_calls hS (Hr.out _ _ (hS.cell List.not_mem_nil cP)) ?_; clear hS; (try clear ww); intro ww hS) | (go_at_call 64; refine own_calls hS (HM.out _) ?_; clear hS; (try clear ww); intro ww hS) | (go_at_call 71; refine own_calls hS (HSl.out _) ?_; clear hS; (try clear ww); intro ww hS) | (go_at_call 44; refine own_calls hS (HPc.out _ (bthen HB0.out hS.below)) ?_; clear hS; (try clear ww); intro ww hS) | (refine w_ld rfl _ rfl (by rfl) (by first | exact rd_1 (by repeat constructor) (by first | rfl | assumption) | exact rd_w (by repeat constructor) (by rfl) | exact rd_o (by assumption) (by rfl) (by first | exact nmn | assumption | simp) | exact rd_h (by assumption) (by rfl) (by first | exact nmn | assumption | simp) | exact rd_1o (by assumption) (by first | exact nmn | assumption | simp) | exact rd_1h (by assumption) (by first | rfl | assumption) (by first | exact nmn | assumption | simp)) hS ?_) | (refine own_box rfl _ _ rfl (by rfl) hS ?_; clear hS; (try clear ww); intro bb ww hS) | (refine w_al rfl rfl hS ?_; clear hS; (try clear ww); intro bb ww hS) | (refine w_st rfl _ _ rfl (by rfl) (by rfl) (by repeat constructor) (by rfl) (by rfl) (by first | rfl | assumption) hS ?_; clear hS; (try clear ww); intro ww hS) | (refine w_s1 rfl _ _ rfl (by rfl) (by repeat constructor) (by first | exact .c | exact .t rfl) (by rfl) (by repeat constructor) hS ?_; clear hS; (try clear ww); intro ww hS))
  refine bodyPost_ret (v := .tuple #[.int .i64 U, .int .i64 V]) (by simp [results, Try.results46, go_sem]) rfl ⟨rfl, bthen HB0.out hS.below⟩

set_option maxHeartbeats 16000000 in
set_option maxRecDepth 100000 in
theorem shifts_c111 (F : Fnt) (l p : Int) (c : Bool) (n : Nat) (h d : Int) (b : Bx (n + 1)) (c0 c1 c2 c3 c6 c7 c8 c9 c10 : Value) (w : World) (sk so : Nat) (s0 s1 s2 s3 s5 s6 s7 s8 s9 s10 : Value) (sh : Int) (uk uo : Nat) (u0 u1 u2 u3 u4 u6 u7 u8 u9 u10 : Value) (ud : Int) (sc uc : Nat) (X M R N S2 r q QU QV : Int) (U : Int) (V : Int) (hr : Rep w (n + 1) b [c0, c1, c2, c3, .int .i64 h, .int .i64 d, c6, c7, c8, c9, c10]) (bh : -1073741824 ≤ h ∧ h ≤ 1073741824) (bd : -1073741824 ≤ d ∧ d ≤ 1073741824) (hF : FntOk w F) (hv : ValidF F) (hi : innerS (n + 1) b = none) (hl : 0 ≤ l ∧ l ≤ 3) (hs : w.rangeAt sk so [s0, s1, s2, s3, .int .i64 sh, s5, s6, s7, s8, s9, s10]) (bs : -1073741824 ≤ sh ∧ sh ≤ 1073741824) (hu : w.rangeAt uk uo [u0, u1, u2, u3, u4, .int .i64 ud, u6, u7, u8, u9, u10]) (ha : ([u0, u1, u2, u3, u4, .int .i64 ud, u6, u7, u8, u9, u10] : List Value).all (·.oneCell') = true) (bu : -1073741824 ≤ ud ∧ ud ≤ 1073741824) (eX : X = scl F.xheight p) (eM : M = scl X 80) (eR : R = scl (raiseP F l c) p) (eN : N = scl X 25) (eS2 : S2 = scl F.sub2 p) (er : r = scl F.rule p) (eq : q = sizeOf' F (2 + l / 2)) (eQU : QU = scl F.supdrop q) (eQV : QV = scl F.subdrop q) (eU : U = max (max (h - QU) R) (ud + N)) (eV : V = max (d + QV) S2) (hg : ((U - ud) - (sh - V)) < 4 * r) (hm : ¬ 0 < M - (U - ud)) (_bX : 0 ≤ X ∧ X ≤ 20000) (bM : 0 ≤ M ∧ M ≤ 20000) (_bR : 0 ≤ R ∧ R ≤ 20000) (bN : 0 ≤ N ∧ N ≤ 20000) (bS2 : 0 ≤ S2 ∧ S2 ≤ 20000) (br : 0 ≤ r ∧ r ≤ 20000) (bQU : 0 ≤ QU ∧ QU ≤ 20000) (bQV : 0 ≤ QV ∧ QV ≤ 20000) :
    Calls Try.prog 46 #[F.val, .agg #[.int .i64 l, .bool c], .int .i64 p, .agg #[c0, c1, c2, c3, .int .i64 h, .int .i64 d, c6, c7, c8, c9, c10], .slice (some ⟨sk, so, none⟩) 1 sc, .slice (some ⟨uk, uo, none⟩) 1 uc] w (Gives (.tuple #[.int .i64 U, .int .i64 (V + (4 * r - ((U - ud) - (sh - V))))]) w) := by
  have HI := Lib.hid (fun w' k (h : Below w.heap.size w w') (hk : w'.rangeAt k 0 [c0, c1, c2, c3, .int .i64 _, .int .i64 _, c6, c7, c8, c9, c10]) => innermost_calls (fun k => k < w.heap.size) (n + 1) b _ k 0 w' hk (RepG.step h (n + 1) b _ (rep_old (n + 1) b _ hr)))
  rw [hi] at HI
  have HX := Lib.hid (fun (w' : World) (b : Nat) (hc : w'.cell? ⟨b, 0, none⟩ = some (.int .i64 p)) => show Calls Try.prog 70 #[.int .i64 F.xheight, .pointer (some ⟨b, 0, none⟩)] w' (Gives (.int .i64 X) w') by rw [eX]; exact shifts1_calls _ _ _ _ hc)
  have HM := Lib.hid (fun (w' : World) => show Calls Try.prog 64 #[.int .i64 X, .int .i64 80] w' (Gives (.int .i64 M) w') by rw [eM]; exact length_Scale_gives _ _ _)
  have HN := Lib.hid (fun (w' : World) => show Calls Try.prog 64 #[.int .i64 X, .int .i64 25] w' (Gives (.int .i64 N) w') by rw [eN]; exact length_Scale_gives _ _ _)
  have HR := Lib.hid (fun (w' : World) (b : Nat) (hc : w'.cell? ⟨b, 0, none⟩ = some (.int .i64 p)) => show Calls Try.prog 70 #[.int .i64 (raiseP F l c), .pointer (some ⟨b, 0, none⟩)] w' (Gives (.int .i64 R) w') by rw [eR]; exact shifts1_calls _ _ _ _ hc)
  have HRs := Lib.hid (fun (w' : World) => raise_calls F l c w' (by omega))
  have HS2 := Lib.hid (fun (w' : World) (b : Nat) (hc : w'.cell? ⟨b, 0, none⟩ = some (.int .i64 p)) => show Calls Try.prog 70 #[.int .i64 F.sub2, .pointer (some ⟨b, 0, none⟩)] w' (Gives (.int .i64 S2) w') by rw [eS2]; exact shifts1_calls _ _ _ _ hc)
  have Hr := Lib.hid (fun (w' : World) (b : Nat) (hc : w'.cell? ⟨b, 0, none⟩ = some (.int .i64 p)) => show Calls Try.prog 70 #[.int .i64 F.rule, .pointer (some ⟨b, 0, none⟩)] w' (Gives (.int .i64 r) w') by rw [er]; exact shifts1_calls _ _ _ _ hc)
  have HSl := Lib.hid (fun (w' : World) => show Calls Try.prog 71 #[.int .i64 8, .int .i64 1, .agg #[.int .i64 l, .bool c]] w' (Gives (.tuple #[.agg #[.int .i64 (2 + l / 2), .bool c], .int .i64 0]) w') by
    cases c
    · exact slot_8_1_false l w' hl.1 hl.2
    · exact slot_8_1_true l w' hl.1 hl.2)
  have HPc := Lib.hid (fun (w' : World) (h : Below w.heap.size w w') => show Calls Try.prog 44 #[F.val, .agg #[.int .i64 (2 + l / 2), .bool c]] w' (Gives (.tuple #[.int .i64 q, .int .i64 0]) w') by
    rw [eq]
    exact style_Percent_calls F (2 + l / 2) _ 0 c w' (hF.below h) ⟨fun _ => ⟨rfl, rfl⟩, fun h => by
      rcases h with h | h
      · simp [lvlOk] at h; omega
      · exact absurd hv h⟩)
  have HQU := Lib.hid (fun (w' : World) => show Calls Try.prog 64 #[.int .i64 F.supdrop, .int .i64 q] w' (Gives (.int .i64 QU) w') by rw [eQU]; exact length_Scale_gives _ _ _)
  have HQV := Lib.hid (fun (w' : World) => show Calls Try.prog 64 #[.int .i64 F.subdrop, .int .i64 q] w' (Gives (.int .i64 QV) w') by rw [eQV]; exact length_Scale_gives _ _ _)
  generalize 2 + l / 2 = l2 at *
  have hmu := fun (w : World) (ts : Array TypeId) (t : TypeId) => eU ▸ run_max3 (P := Try.prog) (h - QU) R (ud + N) w ts t
  have hmv := fun (w : World) (ts : Array TypeId) (t : TypeId) => eV ▸ run_max2 (P := Try.prog) (d + QV) S2 w ts t
  have bU : -3000000000 ≤ U ∧ U ≤ 3000000000 := by omega
  have bV : -3000000000 ≤ V ∧ V ≤ 3000000000 := by omega
  have i0 : IntKind.i64.wrap (h - QU) = h - QU := IntWalk.i64_in _ (by omega)
  have i1 : IntKind.i64.wrap (d + QV) = d + QV := IntWalk.i64_in _ (by omega)
  have i2 : IntKind.i64.wrap (ud + N) = ud + N := IntWalk.i64_in _ (by omega)
  have i3 : IntKind.i64.wrap (U - ud) = U - ud := IntWalk.i64_in _ (by omega)
  have i4 : IntKind.i64.wrap (sh - V) = sh - V := IntWalk.i64_in _ (by omega)
  have i5 : IntKind.i64.wrap ((U - ud) - (sh - V)) = (U - ud) - (sh - V) := IntWalk.i64_in _ (by omega)
  have i6 : IntKind.i64.wrap (4 * r) = 4 * r := IntWalk.i64_in _ (by omega)
  have i7 : IntKind.i64.wrap (4 * r - ((U - ud) - (sh - V))) = 4 * r - ((U - ud) - (sh - V)) := IntWalk.i64_in _ (by omega)
  have i8 : IntKind.i64.wrap (V + (4 * r - ((U - ud) - (sh - V)))) = V + (4 * r - ((U - ud) - (sh - V))) := IntWalk.i64_in _ (by omega)
  have i9 : IntKind.i64.wrap (M - (U - ud)) = M - (U - ud) := IntWalk.i64_in _ (by omega)
  have t1 : decide ((U - ud) - (sh - V) < 4 * r) = true := decide_eq_true hg
  have t2 : decide (0 < M - (U - ud)) = false := decide_eq_false hm
  have t3 : decide (U - ud < M) = false := decide_eq_false (by omega)
  have HH := Lib.hid hr
  clear hr hi bh bd hl eX eM eR eN eS2 er eq eQU eQV _bX bM _bR bN bS2 br bQU bQV hF hv eU bU bu eV bV bs hg hm
  go_enter Try.func46, Try.ntmps46
  have hS := own_start w
  go_upto_region 1 with (first | (refine own_unguard (by rfl) ?_) | (refine own_box1 (v := .int .i64 p) rfl _ _ rfl rfl rfl hS ?_; clear hS; (try clear ww); intro bb ww hS) | (refine w_ld rfl _ rfl (by rfl) (by first | exact rd_1 (by repeat constructor) (by first | rfl | assumption) | exact rd_w (by repeat constructor) (by rfl) | exact rd_o (by assumption) (by rfl) (by first | exact nmn | assumption | simp) | exact rd_h (by assumption) (by rfl) (by first | exact nmn | assumption | simp) | exact rd_1o (by assumption) (by first | exact nmn | assumption | simp) | exact rd_1h (by assumption) (by first | rfl | assumption) (by first | exact nmn | assumption | simp)) hS ?_) | (refine own_box rfl _ _ rfl (by rfl) hS ?_; clear hS; (try clear ww); intro bb ww hS) | (refine w_al rfl rfl hS ?_; clear hS; (try clear ww); intro bb ww hS) | (refine w_st rfl _ _ rfl (by rfl) (by rfl) (by repeat constructor) (by rfl) (by rfl) (by first | rfl | assumption) hS ?_; clear hS; (try clear ww); intro ww hS) | (refine w_s1 rfl _ _ rfl (by rfl) (by repeat constructor) (by first | exact .c | exact .t rfl) (by rfl) (by repeat constructor) hS ?_; clear hS; (try clear ww); intro ww hS))
  have rF := (hS.get at3).range
  have rS := (hS.get at2).range
  have cP := (hS.get at1).cell 0
  simp only [List.getElem?_cons_zero] at cP
  have rB := (hS.get at0).range
  have HB0 := Lib.hid hS.below
  obtain ⟨rP, p3, p5, p13, p14, p15, p16⟩ := fnt_cells rF
  obtain ⟨bc4, bc5⟩ := box_cells0 rB
  have hs0 := hS.range List.not_mem_nil hs
  have s4 := hs0 4 _ rfl
  clear hs
  have hu0 := hS.range List.not_mem_nil hu
  have u5 := hu0 5 _ rfl
  clear hu
  clear hS
  have hS := own_start ww
  go_wp2_with (first | (refine own_unguard (by rfl) ?_) | (go_at_call 28; fail) | (refine w_ld rfl _ rfl (by rfl) (by first | exact rd_1 (by repeat constructor) (by first | rfl | assumption) | exact rd_w (by repeat constructor) (by rfl) | exact rd_o (by assumption) (by rfl) (by first | exact nmn | assumption | simp) | exact rd_h (by assumption) (by rfl) (by first | exact nmn | assumption | simp) | exact rd_1o (by assumption) (by first | exact nmn | assumption | simp) | exact rd_1h (by assumption) (by first | rfl | assumption) (by first | exact nmn | assumption | simp)) hS ?_) | (refine own_box rfl _ _ rfl (by rfl) hS ?_; clear hS; (try clear ww); intro bb ww hS) | (refine w_al rfl rfl hS ?_; clear hS; (try clear ww); intro bb ww hS) | (refine w_st rfl _ _ rfl (by rfl) (by rfl) (by repeat constructor) (by rfl) (by rfl) (by first | rfl | assumption) hS ?_; clear hS; (try clear ww); intro ww hS) | (refine w_s1 rfl _ _ rfl (by rfl) (by repeat constructor) (by first | exact .c | exact .t rfl) (by rfl) (by repeat constructor) hS ?_; clear hS; (try clear ww); intro ww hS))
  go_at_call 28
  refine Calls.mono (HI.out _ _ (bthen HB0.out hS.below) (hS.range List.not_mem_nil rB)) ?_
  rintro e w1 ⟨v, rfl, hv, hb1⟩
  obtain rfl : v = _ := hv
  have hS1 := hS.step hb1
  clear hS hb1
  (try clear ww)
  have hS := hS1
  clear hS1
  go_upto_region 5 with (first | (refine own_unguard (by rfl) ?_) | (go_at_call 70; refine own_calls hS (HX.out _ _ (hS.cell List.not_mem_nil cP)) ?_; clear hS; (try clear ww); intro ww hS) | (go_at_call 70; refine own_calls hS (HS2.out _ _ (hS.cell List.not_mem_nil cP)) ?_; clear hS; (try clear ww); intro ww hS) | (go_at_call 70; refine own_calls hS (Hr.out _ _ (hS.cell List.not_mem_nil cP)) ?_; clear hS; (try clear ww); intro ww hS) | (go_at_call 64; refine own_calls hS (HM.out _) ?_; clear hS; (try clear ww); intro ww hS) | (go_at_call 71; refine own_calls hS (HSl.out _) ?_; clear hS; (try clear ww); intro ww hS) | (go_at_call 44; refine own_calls hS (HPc.out _ (bthen HB0.out hS.below)) ?_; clear hS; (try clear ww); intro ww hS) | (refine w_ld rfl _ rfl (by rfl) (by first | exact rd_1 (by repeat constructor) (by first | rfl | assumption) | exact rd_w (by repeat constructor) (by rfl) | exact rd_o (by assumption) (by rfl) (by first | exact nmn | assumption | simp) | exact rd_h (by assumption) (by rfl) (by first | exact nmn | assumption | simp) | exact rd_1o (by assumption) (by first | exact nmn | assumption | simp) | exact rd_1h (by assumption) (by first | rfl | assumption) (by first | exact nmn | assumption | simp)) hS ?_) | (refine own_box rfl _ _ rfl (by rfl) hS ?_; clear hS; (try clear ww); intro bb ww hS) | (refine w_al rfl rfl hS ?_; clear hS; (try clear ww); intro bb ww hS) | (refine w_st rfl _ _ rfl (by rfl) (by rfl) (by repeat constructor) (by rfl) (by rfl) (by first | rfl | assumption) hS ?_; clear hS; (try clear ww); intro ww hS) | (refine w_s1 rfl _ _ rfl (by rfl) (by repeat constructor) (by first | exact .c | exact .t rfl) (by rfl) (by repeat constructor) hS ?_; clear hS; (try clear ww); intro ww hS))
  (try simp only [Act.put]); (try simp only [List.setIfInBounds_toArray]); (try simp only [List.set_cons_succ]); (try simp only [List.set_cons_zero])
  refine own_region hS (by kernel_rfl) (by kernel_rfl) ?_
  (try simp only [List.append])
  (try simp only); (try simp only [List.drop_succ_cons]); (try simp only [List.drop_zero]); (try simp only [List.take_succ_cons]); (try simp only [List.take_zero])
  repeat (first
      | (first | (refine quiet_plain rfl ?_) | (refine quiet_yes rfl rfl rfl (by simp only [List.getElem?_toArray, List.getElem?_cons_succ, List.getElem?_cons_zero]; rfl) (by with_reducible constructor) ?_)
         apply Exists.intro; refine ⟨?_, ?_⟩
         focus (intro wq hq0; have hq : Own _ _ _ wq := hq0; first | (exact quietAt_rd rfl (by rfl) (by first | exact rd_1 (by repeat constructor) (by first | rfl | assumption) | exact rd_w (by repeat constructor) (by rfl) | exact rd_o (by assumption) (by rfl) (by first | exact nmn | assumption | simp) | exact rd_h (by assumption) (by rfl) (by first | exact nmn | assumption | simp) | exact rd_1o (by assumption) (by first | exact nmn | assumption | simp) | exact rd_1h (by assumption) (by first | rfl | assumption) (by first | exact nmn | assumption | simp)) hq) | (go_simp; first | (go_at_call 64; exact quietG hq (HQU.out _)) | (with_reducible rfl)))
         simp only [Act.put, List.setIfInBounds_toArray, List.set_cons_zero, List.set_cons_succ])
      | (refine quiet_no rfl rfl rfl (by simp only [List.getElem?_toArray, List.getElem?_cons_succ, List.getElem?_cons_zero]; rfl) (by with_reducible constructor) ?_; simp only [Act.put, List.setIfInBounds_toArray, List.set_cons_zero, List.set_cons_succ]))
  refine wpQuiet_nil ?_
  clear hS
  intro ww hS
  go_upto_region 6 with (first | (refine own_unguard (by rfl) ?_) | (go_at_call 70; refine own_calls hS (HX.out _ _ (hS.cell List.not_mem_nil cP)) ?_; clear hS; (try clear ww); intro ww hS) | (go_at_call 70; refine own_calls hS (HS2.out _ _ (hS.cell List.not_mem_nil cP)) ?_; clear hS; (try clear ww); intro ww hS) | (go_at_call 70; refine own_calls hS (Hr.out _ _ (hS.cell List.not_mem_nil cP)) ?_; clear hS; (try clear ww); intro ww hS) | (go_at_call 64; refine own_calls hS (HM.out _) ?_; clear hS; (try clear ww); intro ww hS) | (go_at_call 71; refine own_calls hS (HSl.out _) ?_; clear hS; (try clear ww); intro ww hS) | (go_at_call 44; refine own_calls hS (HPc.out _ (bthen HB0.out hS.below)) ?_; clear hS; (try clear ww); intro ww hS) | (refine w_ld rfl _ rfl (by rfl) (by first | exact rd_1 (by repeat constructor) (by first | rfl | assumption) | exact rd_w (by repeat constructor) (by rfl) | exact rd_o (by assumption) (by rfl) (by first | exact nmn | assumption | simp) | exact rd_h (by assumption) (by rfl) (by first | exact nmn | assumption | simp) | exact rd_1o (by assumption) (by first | exact nmn | assumption | simp) | exact rd_1h (by assumption) (by first | rfl | assumption) (by first | exact nmn | assumption | simp)) hS ?_) | (refine own_box rfl _ _ rfl (by rfl) hS ?_; clear hS; (try clear ww); intro bb ww hS) | (refine w_al rfl rfl hS ?_; clear hS; (try clear ww); intro bb ww hS) | (refine w_st rfl _ _ rfl (by rfl) (by rfl) (by repeat constructor) (by rfl) (by rfl) (by first | rfl | assumption) hS ?_; clear hS; (try clear ww); intro ww hS) | (refine w_s1 rfl _ _ rfl (by rfl) (by repeat constructor) (by first | exact .c | exact .t rfl) (by rfl) (by repeat constructor) hS ?_; clear hS; (try clear ww); intro ww hS))
  (try simp only [Act.put]); (try simp only [List.setIfInBounds_toArray]); (try simp only [List.set_cons_succ]); (try simp only [List.set_cons_zero])
  refine own_region hS (by kernel_rfl) (by kernel_rfl) ?_
  (try simp only [List.append])
  (try simp only); (try simp only [List.drop_succ_cons]); (try simp only [List.drop_zero]); (try simp only [List.take_succ_cons]); (try simp only [List.take_zero])
  repeat (first
      | (first | (refine quiet_plain rfl ?_) | (refine quiet_yes rfl rfl rfl (by simp only [List.getElem?_toArray, List.getElem?_cons_succ, List.getElem?_cons_zero]; rfl) (by with_reducible constructor) ?_)
         apply Exists.intro; refine ⟨?_, ?_⟩
         focus (intro wq hq0; have hq : Own _ _ _ wq := hq0; first | (exact quietAt_rd rfl (by rfl) (by first | exact rd_1 (by repeat constructor) (by first | rfl | assumption) | exact rd_w (by repeat constructor) (by rfl) | exact rd_o (by assumption) (by rfl) (by first | exact nmn | assumption | simp) | exact rd_h (by assumption) (by rfl) (by first | exact nmn | assumption | simp) | exact rd_1o (by assumption) (by first | exact nmn | assumption | simp) | exact rd_1h (by assumption) (by first | rfl | assumption) (by first | exact nmn | assumption | simp)) hq) | (go_simp; first | (go_at_call 64; exact quietG hq (HQV.out _)) | (with_reducible rfl)))
         simp only [Act.put, List.setIfInBounds_toArray, List.set_cons_zero, List.set_cons_succ])
      | (refine quiet_no rfl rfl rfl (by simp only [List.getElem?_toArray, List.getElem?_cons_succ, List.getElem?_cons_zero]; rfl) (by with_reducible constructor) ?_; simp only [Act.put, List.setIfInBounds_toArray, List.set_cons_zero, List.set_cons_succ]))
  refine wpQuiet_nil ?_
  clear hS
  intro ww hS
  go_wp2_with (first | (refine own_unguard (by rfl) ?_) | (go_at_call 70; refine own_calls hS (HX.out _ _ (hS.cell List.not_mem_nil cP)) ?_; clear hS; (try clear ww); intro ww hS) | (go_at_call 70; refine own_calls hS (HS2.out _ _ (hS.cell List.not_mem_nil cP)) ?_; clear hS; (try clear ww); intro ww hS) | (go_at_call 70; refine own_calls hS (Hr.out _ _ (hS.cell List.not_mem_nil cP)) ?_; clear hS; (try clear ww); intro ww hS) | (go_at_call 64; refine own_calls hS (HM.out _) ?_; clear hS; (try clear ww); intro ww hS) | (go_at_call 71; refine own_calls hS (HSl.out _) ?_; clear hS; (try clear ww); intro ww hS) | (go_at_call 44; refine own_calls hS (HPc.out _ (bthen HB0.out hS.below)) ?_; clear hS; (try clear ww); intro ww hS) | (refine w_ld rfl _ rfl (by rfl) (by first | exact rd_1 (by repeat constructor) (by first | rfl | assumption) | exact rd_w (by repeat constructor) (by rfl) | exact rd_o (by assumption) (by rfl) (by first | exact nmn | assumption | simp) | exact rd_h (by assumption) (by rfl) (by first | exact nmn | assumption | simp) | exact rd_1o (by assumption) (by first | exact nmn | assumption | simp) | exact rd_1h (by assumption) (by first | rfl | assumption) (by first | exact nmn | assumption | simp)) hS ?_) | (refine own_box rfl _ _ rfl (by rfl) hS ?_; clear hS; (try clear ww); intro bb ww hS) | (refine w_al rfl rfl hS ?_; clear hS; (try clear ww); intro bb ww hS) | (refine w_st rfl _ _ rfl (by rfl) (by rfl) (by repeat constructor) (by rfl) (by rfl) (by first | rfl | assumption) hS ?_; clear hS; (try clear ww); intro ww hS) | (refine w_s1 rfl _ _ rfl (by rfl) (by repeat constructor) (by first | exact .c | exact .t rfl) (by rfl) (by repeat constructor) hS ?_; clear hS; (try clear ww); intro ww hS))
  refine wp_loop_rounds 2 ?_
  rw [rounds_succ]
  go_upto_region 12 with (first | (refine own_unguard (by rfl) ?_) | (go_at_call 70; refine own_calls hS (HX.out _ _ (hS.cell List.not_mem_nil cP)) ?_; clear hS; (try clear ww); intro ww hS) | (go_at_call 70; refine own_calls hS (HS2.out _ _ (hS.cell List.not_mem_nil cP)) ?_; clear hS; (try clear ww); intro ww hS) | (go_at_call 70; refine own_calls hS (Hr.out _ _ (hS.cell List.not_mem_nil cP)) ?_; clear hS; (try clear ww); intro ww hS) | (go_at_call 64; refine own_calls hS (HM.out _) ?_; clear hS; (try clear ww); intro ww hS) | (go_at_call 71; refine own_calls hS (HSl.out _) ?_; clear hS; (try clear ww); intro ww hS) | (go_at_call 44; refine own_calls hS (HPc.out _ (bthen HB0.out hS.below)) ?_; clear hS; (try clear ww); intro ww hS) | (refine w_ld rfl _ rfl (by rfl) (by first | exact rd_1 (by repeat constructor) (by first | rfl | assumption) | exact rd_w (by repeat constructor) (by rfl) | exact rd_o (by assumption) (by rfl) (by first | exact nmn | assumption | simp) | exact rd_h (by assumption) (by rfl) (by first | exact nmn | assumption | simp) | exact rd_1o (by assumption) (by first | exact nmn | assumption | simp) | exact rd_1h (by assumption) (by first | rfl | assumption) (by first | exact nmn | assumption | simp)) hS ?_) | (refine own_box rfl _ _ rfl (by rfl) hS ?_; clear hS; (try clear ww); intro bb ww hS) | (refine w_al rfl rfl hS ?_; clear hS; (try clear ww); intro bb ww hS) | (refine w_st rfl _ _ rfl (by rfl) (by rfl) (by repeat constructor) (by rfl) (by rfl) (by first | rfl | assumption) hS ?_; clear hS; (try clear ww); intro ww hS) | (refine w_s1 rfl _ _ rfl (by rfl) (by repeat constructor) (by first | exact .c | exact .t rfl) (by rfl) (by repeat constructor) hS ?_; clear hS; (try clear ww); intro ww hS))
  (try simp only [Act.put]); (try simp only [List.setIfInBounds_toArray]); (try simp only [List.set_cons_succ]); (try simp only [List.set_cons_zero])
  refine own_region hS (by kernel_rfl) (by kernel_rfl) ?_
  (try simp only [List.append])
  (try simp only); (try simp only [List.drop_succ_cons]); (try simp only [List.drop_zero]); (try simp only [List.take_succ_cons]); (try simp only [List.take_zero])
  repeat (first
      | (first | (refine quiet_plain rfl ?_) | (refine quiet_yes rfl rfl rfl (by simp only [List.getElem?_toArray, List.getElem?_cons_succ, List.getElem?_cons_zero]; rfl) (by with_reducible constructor) ?_)
         apply Exists.intro; refine ⟨?_, ?_⟩
         focus (intro wq hq0; have hq : Own _ _ _ wq := hq0; first | (exact quietAt_rd rfl (by rfl) (by first | exact rd_1 (by repeat constructor) (by first | rfl | assumption) | exact rd_w (by repeat constructor) (by rfl) | exact rd_o (by assumption) (by rfl) (by first | exact nmn | assumption | simp) | exact rd_h (by assumption) (by rfl) (by first | exact nmn | assumption | simp) | exact rd_1o (by assumption) (by first | exact nmn | assumption | simp) | exact rd_1h (by assumption) (by first | rfl | assumption) (by first | exact nmn | assumption | simp)) hq) | (go_simp; first | (go_at_call 70; exact quietG hq (HR.out _ _ (hq.cell List.not_mem_nil cP))) | (go_at_call 72; exact quietG hq (HRs.out _)) | (go_at_call 64; exact quietG hq (HN.out _)) | (with_reducible rfl)))
         simp only [Act.put, List.setIfInBounds_toArray, List.set_cons_zero, List.set_cons_succ])
      | (refine quiet_no rfl rfl rfl (by simp only [List.getElem?_toArray, List.getElem?_cons_succ, List.getElem?_cons_zero]; rfl) (by with_reducible constructor) ?_; simp only [Act.put, List.setIfInBounds_toArray, List.set_cons_zero, List.set_cons_succ]))
  refine wpQuiet_nil ?_
  clear hS
  intro ww hS
  go_wp2_with (first | (refine own_unguard (by rfl) ?_) | (go_at_call 70; refine own_calls hS (HX.out _ _ (hS.cell List.not_mem_nil cP)) ?_; clear hS; (try clear ww); intro ww hS) | (go_at_call 70; refine own_calls hS (HS2.out _ _ (hS.cell List.not_mem_nil cP)) ?_; clear hS; (try clear ww); intro ww hS) | (go_at_call 70; refine own_calls hS (Hr.out _ _ (hS.cell List.not_mem_nil cP)) ?_; clear hS; (try clear ww); intro ww hS) | (go_at_call 64; refine own_calls hS (HM.out _) ?_; clear hS; (try clear ww); intro ww hS) | (go_at_call 71; refine own_calls hS (HSl.out _) ?_; clear hS; (try clear ww); intro ww hS) | (go_at_call 44; refine own_calls hS (HPc.out _ (bthen HB0.out hS.below)) ?_; clear hS; (try clear ww); intro ww hS) | (refine w_ld rfl _ rfl (by rfl) (by first | exact rd_1 (by repeat constructor) (by first | rfl | assumption) | exact rd_w (by repeat constructor) (by rfl) | exact rd_o (by assumption) (by rfl) (by first | exact nmn | assumption | simp) | exact rd_h (by assumption) (by rfl) (by first | exact nmn | assumption | simp) | exact rd_1o (by assumption) (by first | exact nmn | assumption | simp) | exact rd_1h (by assumption) (by first | rfl | assumption) (by first | exact nmn | assumption | simp)) hS ?_) | (refine own_box rfl _ _ rfl (by rfl) hS ?_; clear hS; (try clear ww); intro bb ww hS) | (refine w_al rfl rfl hS ?_; clear hS; (try clear ww); intro bb ww hS) | (refine w_st rfl _ _ rfl (by rfl) (by rfl) (by repeat constructor) (by rfl) (by rfl) (by first | rfl | assumption) hS ?_; clear hS; (try clear ww); intro ww hS) | (refine w_s1 rfl _ _ rfl (by rfl) (by repeat constructor) (by first | exact .c | exact .t rfl) (by rfl) (by repeat constructor) hS ?_; clear hS; (try clear ww); intro ww hS))
  rw [rounds_succ]
  go_wp2_with (first | (refine own_unguard (by rfl) ?_) | (go_at_call 70; refine own_calls hS (HX.out _ _ (hS.cell List.not_mem_nil cP)) ?_; clear hS; (try clear ww); intro ww hS) | (go_at_call 70; refine own_calls hS (HS2.out _ _ (hS.cell List.not_mem_nil cP)) ?_; clear hS; (try clear ww); intro ww hS) | (go_at_call 70; refine own_calls hS (Hr.out _ _ (hS.cell List.not_mem_nil cP)) ?_; clear hS; (try clear ww); intro ww hS) | (go_at_call 64; refine own_calls hS (HM.out _) ?_; clear hS; (try clear ww); intro ww hS) | (go_at_call 71; refine own_calls hS (HSl.out _) ?_; clear hS; (try clear ww); intro ww hS) | (go_at_call 44; refine own_calls hS (HPc.out _ (bthen HB0.out hS.below)) ?_; clear hS; (try clear ww); intro ww hS) | (refine w_ld rfl _ rfl (by rfl) (by first | exact rd_1 (by repeat constructor) (by first | rfl | assumption) | exact rd_w (by repeat constructor) (by rfl) | exact rd_o (by assumption) (by rfl) (by first | exact nmn | assumption | simp) | exact rd_h (by assumption) (by rfl) (by first | exact nmn | assumption | simp) | exact rd_1o (by assumption) (by first | exact nmn | assumption | simp) | exact rd_1h (by assumption) (by first | rfl | assumption) (by first | exact nmn | assumption | simp)) hS ?_) | (refine own_box rfl _ _ rfl (by rfl) hS ?_; clear hS; (try clear ww); intro bb ww hS) | (refine w_al rfl rfl hS ?_; clear hS; (try clear ww); intro bb ww hS) | (refine w_st rfl _ _ rfl (by rfl) (by rfl) (by repeat constructor) (by rfl) (by rfl) (by first | rfl | assumption) hS ?_; clear hS; (try clear ww); intro ww hS) | (refine w_s1 rfl _ _ rfl (by rfl) (by repeat constructor) (by first | exact .c | exact .t rfl) (by rfl) (by repeat constructor) hS ?_; clear hS; (try clear ww); intro ww hS))
  refine bodyPost_ret (v := .tuple #[.int .i64 U, .int .i64 (V + (4 * r - ((U - ud) - (sh - V))))]) (by simp [results, Try.results46, go_sem]) rfl ⟨rfl, bthen HB0.out hS.below⟩

set_option maxHeartbeats 16000000 in
set_option maxRecDepth 100000 in
theorem shifts_c112 (F : Fnt) (l p : Int) (c : Bool) (n : Nat) (h d : Int) (b : Bx (n + 1)) (c0 c1 c2 c3 c6 c7 c8 c9 c10 : Value) (w : World) (sk so : Nat) (s0 s1 s2 s3 s5 s6 s7 s8 s9 s10 : Value) (sh : Int) (uk uo : Nat) (u0 u1 u2 u3 u4 u6 u7 u8 u9 u10 : Value) (ud : Int) (sc uc : Nat) (X M R N S2 r q QU QV : Int) (U : Int) (V : Int) (hr : Rep w (n + 1) b [c0, c1, c2, c3, .int .i64 h, .int .i64 d, c6, c7, c8, c9, c10]) (bh : -1073741824 ≤ h ∧ h ≤ 1073741824) (bd : -1073741824 ≤ d ∧ d ≤ 1073741824) (hF : FntOk w F) (hv : ValidF F) (hi : innerS (n + 1) b = none) (hl : 0 ≤ l ∧ l ≤ 3) (hs : w.rangeAt sk so [s0, s1, s2, s3, .int .i64 sh, s5, s6, s7, s8, s9, s10]) (bs : -1073741824 ≤ sh ∧ sh ≤ 1073741824) (hu : w.rangeAt uk uo [u0, u1, u2, u3, u4, .int .i64 ud, u6, u7, u8, u9, u10]) (ha : ([u0, u1, u2, u3, u4, .int .i64 ud, u6, u7, u8, u9, u10] : List Value).all (·.oneCell') = true) (bu : -1073741824 ≤ ud ∧ ud ≤ 1073741824) (eX : X = scl F.xheight p) (eM : M = scl X 80) (eR : R = scl (raiseP F l c) p) (eN : N = scl X 25) (eS2 : S2 = scl F.sub2 p) (er : r = scl F.rule p) (eq : q = sizeOf' F (2 + l / 2)) (eQU : QU = scl F.supdrop q) (eQV : QV = scl F.subdrop q) (eU : U = max (max (h - QU) R) (ud + N)) (eV : V = max (d + QV) S2) (hg : ((U - ud) - (sh - V)) < 4 * r) (hm : 0 < M - (U - ud)) (_bX : 0 ≤ X ∧ X ≤ 20000) (bM : 0 ≤ M ∧ M ≤ 20000) (_bR : 0 ≤ R ∧ R ≤ 20000) (bN : 0 ≤ N ∧ N ≤ 20000) (bS2 : 0 ≤ S2 ∧ S2 ≤ 20000) (br : 0 ≤ r ∧ r ≤ 20000) (bQU : 0 ≤ QU ∧ QU ≤ 20000) (bQV : 0 ≤ QV ∧ QV ≤ 20000) :
    Calls Try.prog 46 #[F.val, .agg #[.int .i64 l, .bool c], .int .i64 p, .agg #[c0, c1, c2, c3, .int .i64 h, .int .i64 d, c6, c7, c8, c9, c10], .slice (some ⟨sk, so, none⟩) 1 sc, .slice (some ⟨uk, uo, none⟩) 1 uc] w (Gives (.tuple #[.int .i64 (U + (M - (U - ud))), .int .i64 ((V + (4 * r - ((U - ud) - (sh - V)))) - (M - (U - ud)))]) w) := by
  have HI := Lib.hid (fun w' k (h : Below w.heap.size w w') (hk : w'.rangeAt k 0 [c0, c1, c2, c3, .int .i64 _, .int .i64 _, c6, c7, c8, c9, c10]) => innermost_calls (fun k => k < w.heap.size) (n + 1) b _ k 0 w' hk (RepG.step h (n + 1) b _ (rep_old (n + 1) b _ hr)))
  rw [hi] at HI
  have HX := Lib.hid (fun (w' : World) (b : Nat) (hc : w'.cell? ⟨b, 0, none⟩ = some (.int .i64 p)) => show Calls Try.prog 70 #[.int .i64 F.xheight, .pointer (some ⟨b, 0, none⟩)] w' (Gives (.int .i64 X) w') by rw [eX]; exact shifts1_calls _ _ _ _ hc)
  have HM := Lib.hid (fun (w' : World) => show Calls Try.prog 64 #[.int .i64 X, .int .i64 80] w' (Gives (.int .i64 M) w') by rw [eM]; exact length_Scale_gives _ _ _)
  have HN := Lib.hid (fun (w' : World) => show Calls Try.prog 64 #[.int .i64 X, .int .i64 25] w' (Gives (.int .i64 N) w') by rw [eN]; exact length_Scale_gives _ _ _)
  have HR := Lib.hid (fun (w' : World) (b : Nat) (hc : w'.cell? ⟨b, 0, none⟩ = some (.int .i64 p)) => show Calls Try.prog 70 #[.int .i64 (raiseP F l c), .pointer (some ⟨b, 0, none⟩)] w' (Gives (.int .i64 R) w') by rw [eR]; exact shifts1_calls _ _ _ _ hc)
  have HRs := Lib.hid (fun (w' : World) => raise_calls F l c w' (by omega))
  have HS2 := Lib.hid (fun (w' : World) (b : Nat) (hc : w'.cell? ⟨b, 0, none⟩ = some (.int .i64 p)) => show Calls Try.prog 70 #[.int .i64 F.sub2, .pointer (some ⟨b, 0, none⟩)] w' (Gives (.int .i64 S2) w') by rw [eS2]; exact shifts1_calls _ _ _ _ hc)
  have Hr := Lib.hid (fun (w' : World) (b : Nat) (hc : w'.cell? ⟨b, 0, none⟩ = some (.int .i64 p)) => show Calls Try.prog 70 #[.int .i64 F.rule, .pointer (some ⟨b, 0, none⟩)] w' (Gives (.int .i64 r) w') by rw [er]; exact shifts1_calls _ _ _ _ hc)
  have HSl := Lib.hid (fun (w' : World) => show Calls Try.prog 71 #[.int .i64 8, .int .i64 1, .agg #[.int .i64 l, .bool c]] w' (Gives (.tuple #[.agg #[.int .i64 (2 + l / 2), .bool c], .int .i64 0]) w') by
    cases c
    · exact slot_8_1_false l w' hl.1 hl.2
    · exact slot_8_1_true l w' hl.1 hl.2)
  have HPc := Lib.hid (fun (w' : World) (h : Below w.heap.size w w') => show Calls Try.prog 44 #[F.val, .agg #[.int .i64 (2 + l / 2), .bool c]] w' (Gives (.tuple #[.int .i64 q, .int .i64 0]) w') by
    rw [eq]
    exact style_Percent_calls F (2 + l / 2) _ 0 c w' (hF.below h) ⟨fun _ => ⟨rfl, rfl⟩, fun h => by
      rcases h with h | h
      · simp [lvlOk] at h; omega
      · exact absurd hv h⟩)
  have HQU := Lib.hid (fun (w' : World) => show Calls Try.prog 64 #[.int .i64 F.supdrop, .int .i64 q] w' (Gives (.int .i64 QU) w') by rw [eQU]; exact length_Scale_gives _ _ _)
  have HQV := Lib.hid (fun (w' : World) => show Calls Try.prog 64 #[.int .i64 F.subdrop, .int .i64 q] w' (Gives (.int .i64 QV) w') by rw [eQV]; exact length_Scale_gives _ _ _)
  generalize 2 + l / 2 = l2 at *
  have hmu := fun (w : World) (ts : Array TypeId) (t : TypeId) => eU ▸ run_max3 (P := Try.prog) (h - QU) R (ud + N) w ts t
  have hmv := fun (w : World) (ts : Array TypeId) (t : TypeId) => eV ▸ run_max2 (P := Try.prog) (d + QV) S2 w ts t
  have bU : -3000000000 ≤ U ∧ U ≤ 3000000000 := by omega
  have bV : -3000000000 ≤ V ∧ V ≤ 3000000000 := by omega
  have i0 : IntKind.i64.wrap (h - QU) = h - QU := IntWalk.i64_in _ (by omega)
  have i1 : IntKind.i64.wrap (d + QV) = d + QV := IntWalk.i64_in _ (by omega)
  have i2 : IntKind.i64.wrap (ud + N) = ud + N := IntWalk.i64_in _ (by omega)
  have i3 : IntKind.i64.wrap (U - ud) = U - ud := IntWalk.i64_in _ (by omega)
  have i4 : IntKind.i64.wrap (sh - V) = sh - V := IntWalk.i64_in _ (by omega)
  have i5 : IntKind.i64.wrap ((U - ud) - (sh - V)) = (U - ud) - (sh - V) := IntWalk.i64_in _ (by omega)
  have i6 : IntKind.i64.wrap (4 * r) = 4 * r := IntWalk.i64_in _ (by omega)
  have i7 : IntKind.i64.wrap (4 * r - ((U - ud) - (sh - V))) = 4 * r - ((U - ud) - (sh - V)) := IntWalk.i64_in _ (by omega)
  have i8 : IntKind.i64.wrap (V + (4 * r - ((U - ud) - (sh - V)))) = V + (4 * r - ((U - ud) - (sh - V))) := IntWalk.i64_in _ (by omega)
  have i9 : IntKind.i64.wrap (M - (U - ud)) = M - (U - ud) := IntWalk.i64_in _ (by omega)
  have i10 : IntKind.i64.wrap (U + (M - (U - ud))) = U + (M - (U - ud)) := IntWalk.i64_in _ (by omega)
  have i11 : IntKind.i64.wrap ((V + (4 * r - ((U - ud) - (sh - V)))) - (M - (U - ud))) = (V + (4 * r - ((U - ud) - (sh - V)))) - (M - (U - ud)) := IntWalk.i64_in _ (by omega)
  have t1 : decide ((U - ud) - (sh - V) < 4 * r) = true := decide_eq_true hg
  have t2 : decide (0 < M - (U - ud)) = true := decide_eq_true hm
  have t3 : decide (U - ud < M) = true := decide_eq_true (by omega)
  have HH := Lib.hid hr
  clear hr hi bh bd hl eX eM eR eN eS2 er eq eQU eQV _bX bM _bR bN bS2 br bQU bQV hF hv eU bU bu eV bV bs hg hm
  go_enter Try.func46, Try.ntmps46
  have hS := own_start w
  go_upto_region 1 with (first | (refine own_unguard (by rfl) ?_) | (refine own_box1 (v := .int .i64 p) rfl _ _ rfl rfl rfl hS ?_; clear hS; (try clear ww); intro bb ww hS) | (refine w_ld rfl _ rfl (by rfl) (by first | exact rd_1 (by repeat constructor) (by first | rfl | assumption) | exact rd_w (by repeat constructor) (by rfl) | exact rd_o (by assumption) (by rfl) (by first | exact nmn | assumption | simp) | exact rd_h (by assumption) (by rfl) (by first | exact nmn | assumption | simp) | exact rd_1o (by assumption) (by first | exact nmn | assumption | simp) | exact rd_1h (by assumption) (by first | rfl | assumption) (by first | exact nmn | assumption | simp)) hS ?_) | (refine own_box rfl _ _ rfl (by rfl) hS ?_; clear hS; (try clear ww); intro bb ww hS) | (refine w_al rfl rfl hS ?_; clear hS; (try clear ww); intro bb ww hS) | (refine w_st rfl _ _ rfl (by rfl) (by rfl) (by repeat constructor) (by rfl) (by rfl) (by first | rfl | assumption) hS ?_; clear hS; (try clear ww); intro ww hS) | (refine w_s1 rfl _ _ rfl (by rfl) (by repeat constructor) (by first | exact .c | exact .t rfl) (by rfl) (by repeat constructor) hS ?_; clear hS; (try clear ww); intro ww hS))
  have rF := (hS.get at3).range
  have rS := (hS.get at2).range
  have cP := (hS.get at1).cell 0
  simp only [List.getElem?_cons_zero] at cP
  have rB := (hS.get at0).range
  have HB0 := Lib.hid hS.below
  obtain ⟨rP, p3, p5, p13, p14, p15, p16⟩ := fnt_cells rF
  obtain ⟨bc4, bc5⟩ := box_cells0 rB
  have hs0 := hS.range List.not_mem_nil hs
  have s4 := hs0 4 _ rfl
  clear hs
  have hu0 := hS.range List.not_mem_nil hu
  have u5 := hu0 5 _ rfl
  clear hu
  clear hS
  have hS := own_start ww
  go_wp2_with (first | (refine own_unguard (by rfl) ?_) | (go_at_call 28; fail) | (refine w_ld rfl _ rfl (by rfl) (by first | exact rd_1 (by repeat constructor) (by first | rfl | assumption) | exact rd_w (by repeat constructor) (by rfl) | exact rd_o (by assumption) (by rfl) (by first | exact nmn | assumption | simp) | exact rd_h (by assumption) (by rfl) (by first | exact nmn | assumption | simp) | exact rd_1o (by assumption) (by first | exact nmn | assumption | simp) | exact rd_1h (by assumption) (by first | rfl | assumption) (by first | exact nmn | assumption | simp)) hS ?_) | (refine own_box rfl _ _ rfl (by rfl) hS ?_; clear hS; (try clear ww); intro bb ww hS) | (refine w_al rfl rfl hS ?_; clear hS; (try clear ww); intro bb ww hS) | (refine w_st rfl _ _ rfl (by rfl) (by rfl) (by repeat constructor) (by rfl) (by rfl) (by first | rfl | assumption) hS ?_; clear hS; (try clear ww); intro ww hS) | (refine w_s1 rfl _ _ rfl (by rfl) (by repeat constructor) (by first | exact .c | exact .t rfl) (by rfl) (by repeat constructor) hS ?_; clear hS; (try clear ww); intro ww hS))
  go_at_call 28
  refine Calls.mono (HI.out _ _ (bthen HB0.out hS.below) (hS.range List.not_mem_nil rB)) ?_
  rintro e w1 ⟨v, rfl, hv, hb1⟩
  obtain rfl : v = _ := hv
  have hS1 := hS.step hb1
  clear hS hb1
  (try clear ww)
  have hS := hS1
  clear hS1
  go_upto_region 5 with (first | (refine own_unguard (by rfl) ?_) | (go_at_call 70; refine own_calls hS (HX.out _ _ (hS.cell List.not_mem_nil cP)) ?_; clear hS; (try clear ww); intro ww hS) | (go_at_call 70; refine own_calls hS (HS2.out _ _ (hS.cell List.not_mem_nil cP)) ?_; clear hS; (try clear ww); intro ww hS) | (go_at_call 70; refine own_calls hS (Hr.out _ _ (hS.cell List.not_mem_nil cP)) ?_; clear hS; (try clear ww); intro ww hS) | (go_at_call 64; refine own_calls hS (HM.out _) ?_; clear hS; (try clear ww); intro ww hS) | (go_at_call 71; refine own_calls hS (HSl.out _) ?_; clear hS; (try clear ww); intro ww hS) | (go_at_call 44; refine own_calls hS (HPc.out _ (bthen HB0.out hS.below)) ?_; clear hS; (try clear ww); intro ww hS) | (refine w_ld rfl _ rfl (by rfl) (by first | exact rd_1 (by repeat constructor) (by first | rfl | assumption) | exact rd_w (by repeat constructor) (by rfl) | exact rd_o (by assumption) (by rfl) (by first | exact nmn | assumption | simp) | exact rd_h (by assumption) (by rfl) (by first | exact nmn | assumption | simp) | exact rd_1o (by assumption) (by first | exact nmn | assumption | simp) | exact rd_1h (by assumption) (by first | rfl | assumption) (by first | exact nmn | assumption | simp)) hS ?_) | (refine own_box rfl _ _ rfl (by rfl) hS ?_; clear hS; (try clear ww); intro bb ww hS) | (refine w_al rfl rfl hS ?_; clear hS; (try clear ww); intro bb ww hS) | (refine w_st rfl _ _ rfl (by rfl) (by rfl) (by repeat constructor) (by rfl) (by rfl) (by first | rfl | assumption) hS ?_; clear hS; (try clear ww); intro ww hS) | (refine w_s1 rfl _ _ rfl (by rfl) (by repeat constructor) (by first | exact .c | exact .t rfl) (by rfl) (by repeat constructor) hS ?_; clear hS; (try clear ww); intro ww hS))
  (try simp only [Act.put]); (try simp only [List.setIfInBounds_toArray]); (try simp only [List.set_cons_succ]); (try simp only [List.set_cons_zero])
  refine own_region hS (by kernel_rfl) (by kernel_rfl) ?_
  (try simp only [List.append])
  (try simp only); (try simp only [List.drop_succ_cons]); (try simp only [List.drop_zero]); (try simp only [List.take_succ_cons]); (try simp only [List.take_zero])
  repeat (first
      | (first | (refine quiet_plain rfl ?_) | (refine quiet_yes rfl rfl rfl (by simp only [List.getElem?_toArray, List.getElem?_cons_succ, List.getElem?_cons_zero]; rfl) (by with_reducible constructor) ?_)
         apply Exists.intro; refine ⟨?_, ?_⟩
         focus (intro wq hq0; have hq : Own _ _ _ wq := hq0; first | (exact quietAt_rd rfl (by rfl) (by first | exact rd_1 (by repeat constructor) (by first | rfl | assumption) | exact rd_w (by repeat constructor) (by rfl) | exact rd_o (by assumption) (by rfl) (by first | exact nmn | assumption | simp) | exact rd_h (by assumption) (by rfl) (by first | exact nmn | assumption | simp) | exact rd_1o (by assumption) (by first | exact nmn | assumption | simp) | exact rd_1h (by assumption) (by first | rfl | assumption) (by first | exact nmn | assumption | simp)) hq) | (go_simp; first | (go_at_call 64; exact quietG hq (HQU.out _)) | (with_reducible rfl)))
         simp only [Act.put, List.setIfInBounds_toArray, List.set_cons_zero, List.set_cons_succ])
      | (refine quiet_no rfl rfl rfl (by simp only [List.getElem?_toArray, List.getElem?_cons_succ, List.getElem?_cons_zero]; rfl) (by with_reducible constructor) ?_; simp only [Act.put, List.setIfInBounds_toArray, List.set_cons_zero, List.set_cons_succ]))
  refine wpQuiet_nil ?_
  clear hS
  intro ww hS
  go_upto_region 6 with (first | (refine own_unguard (by rfl) ?_) | (go_at_call 70; refine own_calls hS (HX.out _ _ (hS.cell List.not_mem_nil cP)) ?_; clear hS; (try clear ww); intro ww hS) | (go_at_call 70; refine own_calls hS (HS2.out _ _ (hS.cell List.not_mem_nil cP)) ?_; clear hS; (try clear ww); intro ww hS) | (go_at_call 70; refine own_calls hS (Hr.out _ _ (hS.cell List.not_mem_nil cP)) ?_; clear hS; (try clear ww); intro ww hS) | (go_at_call 64; refine own_calls hS (HM.out _) ?_; clear hS; (try clear ww); intro ww hS) | (go_at_call 71; refine own_calls hS (HSl.out _) ?_; clear hS; (try clear ww); intro ww hS) | (go_at_call 44; refine own_calls hS (HPc.out _ (bthen HB0.out hS.below)) ?_; clear hS; (try clear ww); intro ww hS) | (refine w_ld rfl _ rfl (by rfl) (by first | exact rd_1 (by repeat constructor) (by first | rfl | assumption) | exact rd_w (by repeat constructor) (by rfl) | exact rd_o (by assumption) (by rfl) (by first | exact nmn | assumption | simp) | exact rd_h (by assumption) (by rfl) (by first | exact nmn | assumption | simp) | exact rd_1o (by assumption) (by first | exact nmn | assumption | simp) | exact rd_1h (by assumption) (by first | rfl | assumption) (by first | exact nmn | assumption | simp)) hS ?_) | (refine own_box rfl _ _ rfl (by rfl) hS ?_; clear hS; (try clear ww); intro bb ww hS) | (refine w_al rfl rfl hS ?_; clear hS; (try clear ww); intro bb ww hS) | (refine w_st rfl _ _ rfl (by rfl) (by rfl) (by repeat constructor) (by rfl) (by rfl) (by first | rfl | assumption) hS ?_; clear hS; (try clear ww); intro ww hS) | (refine w_s1 rfl _ _ rfl (by rfl) (by repeat constructor) (by first | exact .c | exact .t rfl) (by rfl) (by repeat constructor) hS ?_; clear hS; (try clear ww); intro ww hS))
  (try simp only [Act.put]); (try simp only [List.setIfInBounds_toArray]); (try simp only [List.set_cons_succ]); (try simp only [List.set_cons_zero])
  refine own_region hS (by kernel_rfl) (by kernel_rfl) ?_
  (try simp only [List.append])
  (try simp only); (try simp only [List.drop_succ_cons]); (try simp only [List.drop_zero]); (try simp only [List.take_succ_cons]); (try simp only [List.take_zero])
  repeat (first
      | (first | (refine quiet_plain rfl ?_) | (refine quiet_yes rfl rfl rfl (by simp only [List.getElem?_toArray, List.getElem?_cons_succ, List.getElem?_cons_zero]; rfl) (by with_reducible constructor) ?_)
         apply Exists.intro; refine ⟨?_, ?_⟩
         focus (intro wq hq0; have hq : Own _ _ _ wq := hq0; first | (exact quietAt_rd rfl (by rfl) (by first | exact rd_1 (by repeat constructor) (by first | rfl | assumption) | exact rd_w (by repeat constructor) (by rfl) | exact rd_o (by assumption) (by rfl) (by first | exact nmn | assumption | simp) | exact rd_h (by assumption) (by rfl) (by first | exact nmn | assumption | simp) | exact rd_1o (by assumption) (by first | exact nmn | assumption | simp) | exact rd_1h (by assumption) (by first | rfl | assumption) (by first | exact nmn | assumption | simp)) hq) | (go_simp; first | (go_at_call 64; exact quietG hq (HQV.out _)) | (with_reducible rfl)))
         simp only [Act.put, List.setIfInBounds_toArray, List.set_cons_zero, List.set_cons_succ])
      | (refine quiet_no rfl rfl rfl (by simp only [List.getElem?_toArray, List.getElem?_cons_succ, List.getElem?_cons_zero]; rfl) (by with_reducible constructor) ?_; simp only [Act.put, List.setIfInBounds_toArray, List.set_cons_zero, List.set_cons_succ]))
  refine wpQuiet_nil ?_
  clear hS
  intro ww hS
  go_wp2_with (first | (refine own_unguard (by rfl) ?_) | (go_at_call 70; refine own_calls hS (HX.out _ _ (hS.cell List.not_mem_nil cP)) ?_; clear hS; (try clear ww); intro ww hS) | (go_at_call 70; refine own_calls hS (HS2.out _ _ (hS.cell List.not_mem_nil cP)) ?_; clear hS; (try clear ww); intro ww hS) | (go_at_call 70; refine own_calls hS (Hr.out _ _ (hS.cell List.not_mem_nil cP)) ?_; clear hS; (try clear ww); intro ww hS) | (go_at_call 64; refine own_calls hS (HM.out _) ?_; clear hS; (try clear ww); intro ww hS) | (go_at_call 71; refine own_calls hS (HSl.out _) ?_; clear hS; (try clear ww); intro ww hS) | (go_at_call 44; refine own_calls hS (HPc.out _ (bthen HB0.out hS.below)) ?_; clear hS; (try clear ww); intro ww hS) | (refine w_ld rfl _ rfl (by rfl) (by first | exact rd_1 (by repeat constructor) (by first | rfl | assumption) | exact rd_w (by repeat constructor) (by rfl) | exact rd_o (by assumption) (by rfl) (by first | exact nmn | assumption | simp) | exact rd_h (by assumption) (by rfl) (by first | exact nmn | assumption | simp) | exact rd_1o (by assumption) (by first | exact nmn | assumption | simp) | exact rd_1h (by assumption) (by first | rfl | assumption) (by first | exact nmn | assumption | simp)) hS ?_) | (refine own_box rfl _ _ rfl (by rfl) hS ?_; clear hS; (try clear ww); intro bb ww hS) | (refine w_al rfl rfl hS ?_; clear hS; (try clear ww); intro bb ww hS) | (refine w_st rfl _ _ rfl (by rfl) (by rfl) (by repeat constructor) (by rfl) (by rfl) (by first | rfl | assumption) hS ?_; clear hS; (try clear ww); intro ww hS) | (refine w_s1 rfl _ _ rfl (by rfl) (by repeat constructor) (by first | exact .c | exact .t rfl) (by rfl) (by repeat constructor) hS ?_; clear hS; (try clear ww); intro ww hS))
  refine wp_loop_rounds 2 ?_
  rw [rounds_succ]
  go_upto_region 12 with (first | (refine own_unguard (by rfl) ?_) | (go_at_call 70; refine own_calls hS (HX.out _ _ (hS.cell List.not_mem_nil cP)) ?_; clear hS; (try clear ww); intro ww hS) | (go_at_call 70; refine own_calls hS (HS2.out _ _ (hS.cell List.not_mem_nil cP)) ?_; clear hS; (try clear ww); intro ww hS) | (go_at_call 70; refine own_calls hS (Hr.out _ _ (hS.cell List.not_mem_nil cP)) ?_; clear hS; (try clear ww); intro ww hS) | (go_at_call 64; refine own_calls hS (HM.out _) ?_; clear hS; (try clear ww); intro ww hS) | (go_at_call 71; refine own_calls hS (HSl.out _) ?_; clear hS; (try clear ww); intro ww hS) | (go_at_call 44; refine own_calls hS (HPc.out _ (bthen HB0.out hS.below)) ?_; clear hS; (try clear ww); intro ww hS) | (refine w_ld rfl _ rfl (by rfl) (by first | exact rd_1 (by repeat constructor) (by first | rfl | assumption) | exact rd_w (by repeat constructor) (by rfl) | exact rd_o (by assumption) (by rfl) (by first | exact nmn | assumption | simp) | exact rd_h (by assumption) (by rfl) (by first | exact nmn | assumption | simp) | exact rd_1o (by assumption) (by first | exact nmn | assumption | simp) | exact rd_1h (by assumption) (by first | rfl | assumption) (by first | exact nmn | assumption | simp)) hS ?_) | (refine own_box rfl _ _ rfl (by rfl) hS ?_; clear hS; (try clear ww); intro bb ww hS) | (refine w_al rfl rfl hS ?_; clear hS; (try clear ww); intro bb ww hS) | (refine w_st rfl _ _ rfl (by rfl) (by rfl) (by repeat constructor) (by rfl) (by rfl) (by first | rfl | assumption) hS ?_; clear hS; (try clear ww); intro ww hS) | (refine w_s1 rfl _ _ rfl (by rfl) (by repeat constructor) (by first | exact .c | exact .t rfl) (by rfl) (by repeat constructor) hS ?_; clear hS; (try clear ww); intro ww hS))
  (try simp only [Act.put]); (try simp only [List.setIfInBounds_toArray]); (try simp only [List.set_cons_succ]); (try simp only [List.set_cons_zero])
  refine own_region hS (by kernel_rfl) (by kernel_rfl) ?_
  (try simp only [List.append])
  (try simp only); (try simp only [List.drop_succ_cons]); (try simp only [List.drop_zero]); (try simp only [List.take_succ_cons]); (try simp only [List.take_zero])
  repeat (first
      | (first | (refine quiet_plain rfl ?_) | (refine quiet_yes rfl rfl rfl (by simp only [List.getElem?_toArray, List.getElem?_cons_succ, List.getElem?_cons_zero]; rfl) (by with_reducible constructor) ?_)
         apply Exists.intro; refine ⟨?_, ?_⟩
         focus (intro wq hq0; have hq : Own _ _ _ wq := hq0; first | (exact quietAt_rd rfl (by rfl) (by first | exact rd_1 (by repeat constructor) (by first | rfl | assumption) | exact rd_w (by repeat constructor) (by rfl) | exact rd_o (by assumption) (by rfl) (by first | exact nmn | assumption | simp) | exact rd_h (by assumption) (by rfl) (by first | exact nmn | assumption | simp) | exact rd_1o (by assumption) (by first | exact nmn | assumption | simp) | exact rd_1h (by assumption) (by first | rfl | assumption) (by first | exact nmn | assumption | simp)) hq) | (go_simp; first | (go_at_call 70; exact quietG hq (HR.out _ _ (hq.cell List.not_mem_nil cP))) | (go_at_call 72; exact quietG hq (HRs.out _)) | (go_at_call 64; exact quietG hq (HN.out _)) | (with_reducible rfl)))
         simp only [Act.put, List.setIfInBounds_toArray, List.set_cons_zero, List.set_cons_succ])
      | (refine quiet_no rfl rfl rfl (by simp only [List.getElem?_toArray, List.getElem?_cons_succ, List.getElem?_cons_zero]; rfl) (by with_reducible constructor) ?_; simp only [Act.put, List.setIfInBounds_toArray, List.set_cons_zero, List.set_cons_succ]))
  refine wpQuiet_nil ?_
  clear hS
  intro ww hS
  go_wp2_with (first | (refine own_unguard (by rfl) ?_) | (go_at_call 70; refine own_calls hS (HX.out _ _ (hS.cell List.not_mem_nil cP)) ?_; clear hS; (try clear ww); intro ww hS) | (go_at_call 70; refine own_calls hS (HS2.out _ _ (hS.cell List.not_mem_nil cP)) ?_; clear hS; (try clear ww); intro ww hS) | (go_at_call 70; refine own_calls hS (Hr.out _ _ (hS.cell List.not_mem_nil cP)) ?_; clear hS; (try clear ww); intro ww hS) | (go_at_call 64; refine own_calls hS (HM.out _) ?_; clear hS; (try clear ww); intro ww hS) | (go_at_call 71; refine own_calls hS (HSl.out _) ?_; clear hS; (try clear ww); intro ww hS) | (go_at_call 44; refine own_calls hS (HPc.out _ (bthen HB0.out hS.below)) ?_; clear hS; (try clear ww); intro ww hS) | (refine w_ld rfl _ rfl (by rfl) (by first | exact rd_1 (by repeat constructor) (by first | rfl | assumption) | exact rd_w (by repeat constructor) (by rfl) | exact rd_o (by assumption) (by rfl) (by first | exact nmn | assumption | simp) | exact rd_h (by assumption) (by rfl) (by first | exact nmn | assumption | simp) | exact rd_1o (by assumption) (by first | exact nmn | assumption | simp) | exact rd_1h (by assumption) (by first | rfl | assumption) (by first | exact nmn | assumption | simp)) hS ?_) | (refine own_box rfl _ _ rfl (by rfl) hS ?_; clear hS; (try clear ww); intro bb ww hS) | (refine w_al rfl rfl hS ?_; clear hS; (try clear ww); intro bb ww hS) | (refine w_st rfl _ _ rfl (by rfl) (by rfl) (by repeat constructor) (by rfl) (by rfl) (by first | rfl | assumption) hS ?_; clear hS; (try clear ww); intro ww hS) | (refine w_s1 rfl _ _ rfl (by rfl) (by repeat constructor) (by first | exact .c | exact .t rfl) (by rfl) (by repeat constructor) hS ?_; clear hS; (try clear ww); intro ww hS))
  rw [rounds_succ]
  go_wp2_with (first | (refine own_unguard (by rfl) ?_) | (go_at_call 70; refine own_calls hS (HX.out _ _ (hS.cell List.not_mem_nil cP)) ?_; clear hS; (try clear ww); intro ww hS) | (go_at_call 70; refine own_calls hS (HS2.out _ _ (hS.cell List.not_mem_nil cP)) ?_; clear hS; (try clear ww); intro ww hS) | (go_at_call 70; refine own_calls hS (Hr.out _ _ (hS.cell List.not_mem_nil cP)) ?_; clear hS; (try clear ww); intro ww hS) | (go_at_call 64; refine own_calls hS (HM.out _) ?_; clear hS; (try clear ww); intro ww hS) | (go_at_call 71; refine own_calls hS (HSl.out _) ?_; clear hS; (try clear ww); intro ww hS) | (go_at_call 44; refine own_calls hS (HPc.out _ (bthen HB0.out hS.below)) ?_; clear hS; (try clear ww); intro ww hS) | (refine w_ld rfl _ rfl (by rfl) (by first | exact rd_1 (by repeat constructor) (by first | rfl | assumption) | exact rd_w (by repeat constructor) (by rfl) | exact rd_o (by assumption) (by rfl) (by first | exact nmn | assumption | simp) | exact rd_h (by assumption) (by rfl) (by first | exact nmn | assumption | simp) | exact rd_1o (by assumption) (by first | exact nmn | assumption | simp) | exact rd_1h (by assumption) (by first | rfl | assumption) (by first | exact nmn | assumption | simp)) hS ?_) | (refine own_box rfl _ _ rfl (by rfl) hS ?_; clear hS; (try clear ww); intro bb ww hS) | (refine w_al rfl rfl hS ?_; clear hS; (try clear ww); intro bb ww hS) | (refine w_st rfl _ _ rfl (by rfl) (by rfl) (by repeat constructor) (by rfl) (by rfl) (by first | rfl | assumption) hS ?_; clear hS; (try clear ww); intro ww hS) | (refine w_s1 rfl _ _ rfl (by rfl) (by repeat constructor) (by first | exact .c | exact .t rfl) (by rfl) (by repeat constructor) hS ?_; clear hS; (try clear ww); intro ww hS))
  refine bodyPost_ret (v := .tuple #[.int .i64 (U + (M - (U - ud))), .int .i64 ((V + (4 * r - ((U - ud) - (sh - V)))) - (M - (U - ud)))]) (by simp [results, Try.results46, go_sem]) rfl ⟨rfl, bthen HB0.out hS.below⟩

end Go.Proofs.Ytgpabckipmhobaa
