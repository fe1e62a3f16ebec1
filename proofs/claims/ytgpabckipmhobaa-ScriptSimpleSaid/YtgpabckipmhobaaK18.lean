/- Scripts: shifts, a simple base. -/
import Derived.Test.YtgpabckipmhobaaK16
import Derived.LoopN
namespace Go.Proofs.Ytgpabckipmhobaa
open Go.RowKit

attribute [local irreducible] wpQuiet wpG wpP wpK wpList Code.wp Calls

set_option maxHeartbeats 16000000 in
set_option maxRecDepth 100000 in
theorem shifts_s000 (F : Fnt) (l p : Int) (c : Bool) (n : Nat) (h d : Int) (b : Bx (n + 1)) (c0 c1 c2 c3 c6 c7 c8 c9 c10 : Value) (w : World) (sc uc : Nat) (sx : Option Addr) (ux : Option Addr) (X M : Int) (hr : Rep w (n + 1) b [c0, c1, c2, c3, .int .i64 h, .int .i64 d, c6, c7, c8, c9, c10]) (_bh : -1073741824 ≤ h ∧ h ≤ 1073741824) (_bd : -1073741824 ≤ d ∧ d ≤ 1073741824) (m : Nat) (g : Bx (m + 1)) (hi : innerS (n + 1) b = some ⟨m, g⟩) (_hl : 0 ≤ l ∧ l ≤ 3) (eX : X = scl F.xheight p) (eM : M = scl X 80) (_bX : 0 ≤ X ∧ X ≤ 20000) (_bM : 0 ≤ M ∧ M ≤ 20000) :
    Calls Try.prog 46 #[F.val, .agg #[.int .i64 l, .bool c], .int .i64 p, .agg #[c0, c1, c2, c3, .int .i64 h, .int .i64 d, c6, c7, c8, c9, c10], .slice sx 0 sc, .slice ux 0 uc] w (Gives (.tuple #[.int .i64 0, .int .i64 0]) w) := by
  have HI := Lib.hid (fun w' k (h : Below w.heap.size w w') (hk : w'.rangeAt k 0 [c0, c1, c2, c3, .int .i64 _, .int .i64 _, c6, c7, c8, c9, c10]) => innermost_calls (fun k => k < w.heap.size) (n + 1) b _ k 0 w' hk (RepG.step h (n + 1) b _ (rep_old (n + 1) b _ hr)))
  rw [hi] at HI
  have HX := Lib.hid (fun (w' : World) (b : Nat) (hc : w'.cell? ⟨b, 0, none⟩ = some (.int .i64 p)) => show Calls Try.prog 70 #[.int .i64 F.xheight, .pointer (some ⟨b, 0, none⟩)] w' (Gives (.int .i64 X) w') by rw [eX]; exact shifts1_calls _ _ _ _ hc)
  have HM := Lib.hid (fun (w' : World) => show Calls Try.prog 64 #[.int .i64 X, .int .i64 80] w' (Gives (.int .i64 M) w') by rw [eM]; exact length_Scale_gives _ _ _)
  have HH := Lib.hid hr
  clear hr hi _bh _bd _hl eX eM _bX _bM
  go_enter Try.func46, Try.ntmps46
  have hS := own_start w
  go_upto_region 1 with (first | (refine own_unguard (by rfl) ?_) | (refine own_box1 (v := .int .i64 p) rfl _ _ rfl rfl rfl hS ?_; clear hS; (try clear ww); intro bb ww hS) | (refine w_ld rfl _ rfl (by rfl) (by first | exact rd_1 (by repeat constructor) (by first | rfl | assumption) | exact rd_w (by repeat constructor) (by rfl) | exact rd_o (by assumption) (by rfl) (by first | exact nmn | assumption | simp) | exact rd_h (by assumption) (by rfl) (by first | exact nmn | assumption | simp) | exact rd_1o (by assumption) (by first | exact nmn | assumption | simp) | exact rd_1h (by assumption) (by first | rfl | assumption) (by first | exact nmn | assumption | simp)) hS ?_) | (refine own_box rfl _ _ rfl (by rfl) hS ?_; clear hS; (try clear ww); intro bb ww hS) | (refine w_al rfl rfl hS ?_; clear hS; (try clear ww); intro bb ww hS) | (refine w_st rfl _ _ rfl (by rfl) (by rfl) (by repeat constructor) (by rfl) (by rfl) (by first | rfl | assumption) hS ?_; clear hS; (try clear ww); intro ww hS) | (refine w_s1 rfl _ _ rfl (by rfl) (by repeat constructor) (by first | exact .c | exact .t rfl) (by rfl) (by repeat constructor) hS ?_; clear hS; (try clear ww); intro ww hS))
  have rF := (hS.get at3).range
  have rS := (hS.get at2).range
  have cP := (hS.get at1).cell 0
  simp only [List.getElem?_cons_zero] at cP
  have rB := (hS.get at0).range
  have HB0 := Lib.hid hS.below
  obtain ⟨rP, p3, p5, p13, p14, p15, p16⟩ := fnt_cells rF
  obtain ⟨bc4, bc5⟩ := box_cells0 rB
  clear hS
  have hS := own_start ww
  go_wp2_with (first | (refine own_unguard (by rfl) ?_) | (go_at_call 28; fail) | (refine w_ld rfl _ rfl (by rfl) (by first | exact rd_1 (by repeat constructor) (by first | rfl | assumption) | exact rd_w (by repeat constructor) (by rfl) | exact rd_o (by assumption) (by rfl) (by first | exact nmn | assumption | simp) | exact rd_h (by assumption) (by rfl) (by first | exact nmn | assumption | simp) | exact rd_1o (by assumption) (by first | exact nmn | assumption | simp) | exact rd_1h (by assumption) (by first | rfl | assumption) (by first | exact nmn | assumption | simp)) hS ?_) | (refine own_box rfl _ _ rfl (by rfl) hS ?_; clear hS; (try clear ww); intro bb ww hS) | (refine w_al rfl rfl hS ?_; clear hS; (try clear ww); intro bb ww hS) | (refine w_st rfl _ _ rfl (by rfl) (by rfl) (by repeat constructor) (by rfl) (by rfl) (by first | rfl | assumption) hS ?_; clear hS; (try clear ww); intro ww hS) | (refine w_s1 rfl _ _ rfl (by rfl) (by repeat constructor) (by first | exact .c | exact .t rfl) (by rfl) (by repeat constructor) hS ?_; clear hS; (try clear ww); intro ww hS))
  go_at_call 28
  refine Calls.mono (HI.out _ _ (bthen HB0.out hS.below) (hS.range List.not_mem_nil rB)) ?_
  rintro e w1 ⟨v, rfl, ⟨k, o, gcs, rfl, hkP, hk, hg⟩, hb1⟩
  clear hkP hk hg
  have hS1 := hS.step hb1
  clear hS hb1
  (try clear ww)
  have hS := hS1
  clear hS1
  go_wp2_with (first | (refine own_unguard (by rfl) ?_) | (go_at_call 70; refine own_calls hS (HX.out _ _ (hS.cell List.not_mem_nil cP)) ?_; clear hS; (try clear ww); intro ww hS) | (go_at_call 64; refine own_calls hS (HM.out _) ?_; clear hS; (try clear ww); intro ww hS) | (refine w_ld rfl _ rfl (by rfl) (by first | exact rd_1 (by repeat constructor) (by first | rfl | assumption) | exact rd_w (by repeat constructor) (by rfl) | exact rd_o (by assumption) (by rfl) (by first | exact nmn | assumption | simp) | exact rd_h (by assumption) (by rfl) (by first | exact nmn | assumption | simp) | exact rd_1o (by assumption) (by first | exact nmn | assumption | simp) | exact rd_1h (by assumption) (by first | rfl | assumption) (by first | exact nmn | assumption | simp)) hS ?_) | (refine own_box rfl _ _ rfl (by rfl) hS ?_; clear hS; (try clear ww); intro bb ww hS) | (refine w_al rfl rfl hS ?_; clear hS; (try clear ww); intro bb ww hS) | (refine w_st rfl _ _ rfl (by rfl) (by rfl) (by repeat constructor) (by rfl) (by rfl) (by first | rfl | assumption) hS ?_; clear hS; (try clear ww); intro ww hS) | (refine w_s1 rfl _ _ rfl (by rfl) (by repeat constructor) (by first | exact .c | exact .t rfl) (by rfl) (by repeat constructor) hS ?_; clear hS; (try clear ww); intro ww hS))
  refine wp_loop_rounds 1 ?_
  rw [rounds_succ]
  go_wp2_with (first | (refine own_unguard (by rfl) ?_) | (go_at_call 70; refine own_calls hS (HX.out _ _ (hS.cell List.not_mem_nil cP)) ?_; clear hS; (try clear ww); intro ww hS) | (go_at_call 64; refine own_calls hS (HM.out _) ?_; clear hS; (try clear ww); intro ww hS) | (refine w_ld rfl _ rfl (by rfl) (by first | exact rd_1 (by repeat constructor) (by first | rfl | assumption) | exact rd_w (by repeat constructor) (by rfl) | exact rd_o (by assumption) (by rfl) (by first | exact nmn | assumption | simp) | exact rd_h (by assumption) (by rfl) (by first | exact nmn | assumption | simp) | exact rd_1o (by assumption) (by first | exact nmn | assumption | simp) | exact rd_1h (by assumption) (by first | rfl | assumption) (by first | exact nmn | assumption | simp)) hS ?_) | (refine own_box rfl _ _ rfl (by rfl) hS ?_; clear hS; (try clear ww); intro bb ww hS) | (refine w_al rfl rfl hS ?_; clear hS; (try clear ww); intro bb ww hS) | (refine w_st rfl _ _ rfl (by rfl) (by rfl) (by repeat constructor) (by rfl) (by rfl) (by first | rfl | assumption) hS ?_; clear hS; (try clear ww); intro ww hS) | (refine w_s1 rfl _ _ rfl (by rfl) (by repeat constructor) (by first | exact .c | exact .t rfl) (by rfl) (by repeat constructor) hS ?_; clear hS; (try clear ww); intro ww hS))
  refine bodyPost_ret (v := .tuple #[.int .i64 0, .int .i64 0]) (by simp [results, Try.results46, go_sem]) rfl ⟨rfl, bthen HB0.out hS.below⟩

set_option maxHeartbeats 16000000 in
set_option maxRecDepth 100000 in
theorem shifts_s100 (F : Fnt) (l p : Int) (c : Bool) (n : Nat) (h d : Int) (b : Bx (n + 1)) (c0 c1 c2 c3 c6 c7 c8 c9 c10 : Value) (w : World) (sk so : Nat) (s0 s1 s2 s3 s5 s6 s7 s8 s9 s10 : Value) (sh : Int) (sc uc : Nat) (ux : Option Addr) (X M S1 : Int) (V : Int) (hr : Rep w (n + 1) b [c0, c1, c2, c3, .int .i64 h, .int .i64 d, c6, c7, c8, c9, c10]) (_bh : -1073741824 ≤ h ∧ h ≤ 1073741824) (_bd : -1073741824 ≤ d ∧ d ≤ 1073741824) (m : Nat) (g : Bx (m + 1)) (hi : innerS (n + 1) b = some ⟨m, g⟩) (_hl : 0 ≤ l ∧ l ≤ 3) (hs : w.rangeAt sk so [s0, s1, s2, s3, .int .i64 sh, s5, s6, s7, s8, s9, s10]) (bs : -1073741824 ≤ sh ∧ sh ≤ 1073741824) (eX : X = scl F.xheight p) (eM : M = scl X 80) (eS1 : S1 = scl F.sub1 p) (eV : V = max (max 0 S1) (sh - M)) (_bX : 0 ≤ X ∧ X ≤ 20000) (bM : 0 ≤ M ∧ M ≤ 20000) (bS1 : 0 ≤ S1 ∧ S1 ≤ 20000) :
    Calls Try.prog 46 #[F.val, .agg #[.int .i64 l, .bool c], .int .i64 p, .agg #[c0, c1, c2, c3, .int .i64 h, .int .i64 d, c6, c7, c8, c9, c10], .slice (some ⟨sk, so, none⟩) 1 sc, .slice ux 0 uc] w (Gives (.tuple #[.int .i64 0, .int .i64 V]) w) := by
  have HI := Lib.hid (fun w' k (h : Below w.heap.size w w') (hk : w'.rangeAt k 0 [c0, c1, c2, c3, .int .i64 _, .int .i64 _, c6, c7, c8, c9, c10]) => innermost_calls (fun k => k < w.heap.size) (n + 1) b _ k 0 w' hk (RepG.step h (n + 1) b _ (rep_old (n + 1) b _ hr)))
  rw [hi] at HI
  have HX := Lib.hid (fun (w' : World) (b : Nat) (hc : w'.cell? ⟨b, 0, none⟩ = some (.int .i64 p)) => show Calls Try.prog 70 #[.int .i64 F.xheight, .pointer (some ⟨b, 0, none⟩)] w' (Gives (.int .i64 X) w') by rw [eX]; exact shifts1_calls _ _ _ _ hc)
  have HM := Lib.hid (fun (w' : World) => show Calls Try.prog 64 #[.int .i64 X, .int .i64 80] w' (Gives (.int .i64 M) w') by rw [eM]; exact length_Scale_gives _ _ _)
  have HS1 := Lib.hid (fun (w' : World) (b : Nat) (hc : w'.cell? ⟨b, 0, none⟩ = some (.int .i64 p)) => show Calls Try.prog 70 #[.int .i64 F.sub1, .pointer (some ⟨b, 0, none⟩)] w' (Gives (.int .i64 S1) w') by rw [eS1]; exact shifts1_calls _ _ _ _ hc)
  have hmv := fun (w : World) (ts : Array TypeId) (t : TypeId) => eV ▸ run_max3 (P := Try.prog) 0 S1 (sh - M) w ts t
  have bV : -3000000000 ≤ V ∧ V ≤ 3000000000 := by omega
  have i0 : IntKind.i64.wrap (sh - M) = sh - M := IntWalk.i64_in _ (by omega)
  have HH := Lib.hid hr
  clear hr hi _bh _bd _hl eX eM eS1 _bX bM bS1 eV bV bs
  go_enter Try.func46, Try.ntmps46
  have hS := own_start w
  go_upto_region 1 with (first | (refine own_unguard (by rfl) ?_) | (refine own_box1 (v := .int .i64 p) rfl _ _ rfl rfl rfl hS ?_; clear hS; (try clear ww); intro bb ww hS) | (refine w_ld rfl _ rfl (by rfl) (by first | exact rd_1 (by repeat constructor) (by first | rfl | assumption) | exact rd_w (by repeat constructor) (by rfl) | exact rd_o (by assumption) (by rfl) (by first | exact nmn | assumption | simp) | exact rd_h (by assumption) (by rfl) (by first | exact nmn | assumption | simp) | exact rd_1o (by assumption) (by first | exact nmn | assumption | simp) | exact rd_1h (by assumption) (by first | rfl | assumption) (by first | exact nmn | assumption | simp)) hS ?_) | (refine own_box rfl _ _ rfl (by rfl) hS ?_; clear hS; (try clear ww); intro bb ww hS) | (refine w_al rfl rfl hS ?_; clear hS; (try clear ww); intro bb ww hS) | (refine w_st rfl _ _ rfl (by rfl) (by rfl) (by repeat constructor) (by rfl) (by rfl) (by first | rfl | assumption) hS ?_; clear hS; (try clear ww); intro ww hS) | (refine w_s1 rfl _ _ rfl (by rfl) (by repeat constructor) (by first | exact .c | exact .t rfl) (by rfl) (by repeat constructor) hS ?_; clear hS; (try clear ww); intro ww hS))
  have rF := (hS.get at3).range
  have rS := (hS.get at2).range
  have cP := (hS.get at1).cell 0
  simp only [List.getElem?_cons_zero] at cP
  have rB := (hS.get at0).range
  have HB0 := Lib.hid hS.below
  obtain ⟨rP, p3, p5, p13, p14, p15, p16⟩ := fnt_cells rF
  obtain ⟨bc4, bc5⟩ := box_cells0 rB
  have hs0 := hS.range List.not_mem_nil hs
  have s4 := hs0 4 _ rfl
  clear hs
  clear hS
  have hS := own_start ww
  go_wp2_with (first | (refine own_unguard (by rfl) ?_) | (go_at_call 28; fail) | (refine w_ld rfl _ rfl (by rfl) (by first | exact rd_1 (by repeat constructor) (by first | rfl | assumption) | exact rd_w (by repeat constructor) (by rfl) | exact rd_o (by assumption) (by rfl) (by first | exact nmn | assumption | simp) | exact rd_h (by assumption) (by rfl) (by first | exact nmn | assumption | simp) | exact rd_1o (by assumption) (by first | exact nmn | assumption | simp) | exact rd_1h (by assumption) (by first | rfl | assumption) (by first | exact nmn | assumption | simp)) hS ?_) | (refine own_box rfl _ _ rfl (by rfl) hS ?_; clear hS; (try clear ww); intro bb ww hS) | (refine w_al rfl rfl hS ?_; clear hS; (try clear ww); intro bb ww hS) | (refine w_st rfl _ _ rfl (by rfl) (by rfl) (by repeat constructor) (by rfl) (by rfl) (by first | rfl | assumption) hS ?_; clear hS; (try clear ww); intro ww hS) | (refine w_s1 rfl _ _ rfl (by rfl) (by repeat constructor) (by first | exact .c | exact .t rfl) (by rfl) (by repeat constructor) hS ?_; clear hS; (try clear ww); intro ww hS))
  go_at_call 28
  refine Calls.mono (HI.out _ _ (bthen HB0.out hS.below) (hS.range List.not_mem_nil rB)) ?_
  rintro e w1 ⟨v, rfl, ⟨k, o, gcs, rfl, hkP, hk, hg⟩, hb1⟩
  clear hkP hk hg
  have hS1 := hS.step hb1
  clear hS hb1
  (try clear ww)
  have hS := hS1
  clear hS1
  go_wp2_with (first | (refine own_unguard (by rfl) ?_) | (go_at_call 70; refine own_calls hS (HX.out _ _ (hS.cell List.not_mem_nil cP)) ?_; clear hS; (try clear ww); intro ww hS) | (go_at_call 64; refine own_calls hS (HM.out _) ?_; clear hS; (try clear ww); intro ww hS) | (refine w_ld rfl _ rfl (by rfl) (by first | exact rd_1 (by repeat constructor) (by first | rfl | assumption) | exact rd_w (by repeat constructor) (by rfl) | exact rd_o (by assumption) (by rfl) (by first | exact nmn | assumption | simp) | exact rd_h (by assumption) (by rfl) (by first | exact nmn | assumption | simp) | exact rd_1o (by assumption) (by first | exact nmn | assumption | simp) | exact rd_1h (by assumption) (by first | rfl | assumption) (by first | exact nmn | assumption | simp)) hS ?_) | (refine own_box rfl _ _ rfl (by rfl) hS ?_; clear hS; (try clear ww); intro bb ww hS) | (refine w_al rfl rfl hS ?_; clear hS; (try clear ww); intro bb ww hS) | (refine w_st rfl _ _ rfl (by rfl) (by rfl) (by repeat constructor) (by rfl) (by rfl) (by first | rfl | assumption) hS ?_; clear hS; (try clear ww); intro ww hS) | (refine w_s1 rfl _ _ rfl (by rfl) (by repeat constructor) (by first | exact .c | exact .t rfl) (by rfl) (by repeat constructor) hS ?_; clear hS; (try clear ww); intro ww hS))
  refine wp_loop_rounds 1 ?_
  rw [rounds_succ]
  go_upto_region 26 with (first | (refine own_unguard (by rfl) ?_) | (go_at_call 70; refine own_calls hS (HX.out _ _ (hS.cell List.not_mem_nil cP)) ?_; clear hS; (try clear ww); intro ww hS) | (go_at_call 64; refine own_calls hS (HM.out _) ?_; clear hS; (try clear ww); intro ww hS) | (refine w_ld rfl _ rfl (by rfl) (by first | exact rd_1 (by repeat constructor) (by first | rfl | assumption) | exact rd_w (by repeat constructor) (by rfl) | exact rd_o (by assumption) (by rfl) (by first | exact nmn | assumption | simp) | exact rd_h (by assumption) (by rfl) (by first | exact nmn | assumption | simp) | exact rd_1o (by assumption) (by first | exact nmn | assumption | simp) | exact rd_1h (by assumption) (by first | rfl | assumption) (by first | exact nmn | assumption | simp)) hS ?_) | (refine own_box rfl _ _ rfl (by rfl) hS ?_; clear hS; (try clear ww); intro bb ww hS) | (refine w_al rfl rfl hS ?_; clear hS; (try clear ww); intro bb ww hS) | (refine w_st rfl _ _ rfl (by rfl) (by rfl) (by repeat constructor) (by rfl) (by rfl) (by first | rfl | assumption) hS ?_; clear hS; (try clear ww); intro ww hS) | (refine w_s1 rfl _ _ rfl (by rfl) (by repeat constructor) (by first | exact .c | exact .t rfl) (by rfl) (by repeat constructor) hS ?_; clear hS; (try clear ww); intro ww hS))
  (try simp only [Act.put]); (try simp only [List.setIfInBounds_toArray]); (try simp only [List.set_cons_succ]); (try simp only [List.set_cons_zero])
  refine own_region hS (by kernel_rfl) (by kernel_rfl) ?_
  (try simp only [List.append])
  (try simp only); (try simp only [List.drop_succ_cons]); (try simp only [List.drop_zero]); (try simp only [List.take_succ_cons]); (try simp only [List.take_zero])
  repeat (first
      | (first | (refine quiet_plain rfl ?_) | (refine quiet_yes rfl rfl rfl (by simp only [List.getElem?_toArray, List.getElem?_cons_succ, List.getElem?_cons_zero]; rfl) (by with_reducible constructor) ?_)
         apply Exists.intro; refine ⟨?_, ?_⟩
         focus (intro wq hq0; have hq : Own _ _ _ wq := hq0; first | (exact quietAt_rd rfl (by rfl) (by first | exact rd_1 (by repeat constructor) (by first | rfl | assumption) | exact rd_w (by repeat constructor) (by rfl) | exact rd_o (by assumption) (by rfl) (by first | exact nmn | assumption | simp) | exact rd_h (by assumption) (by rfl) (by first | exact nmn | assumption | simp) | exact rd_1o (by assumption) (by first | exact nmn | assumption | simp) | exact rd_1h (by assumption) (by first | rfl | assumption) (by first | exact nmn | assumption | simp)) hq) | (go_simp; first | (go_at_call 70; exact quietG hq (HS1.out _ _ (hq.cell List.not_mem_nil cP))) | (with_reducible rfl)))
         simp only [Act.put, List.setIfInBounds_toArray, List.set_cons_zero, List.set_cons_succ])
      | (refine quiet_no rfl rfl rfl (by simp only [List.getElem?_toArray, List.getElem?_cons_succ, List.getElem?_cons_zero]; rfl) (by with_reducible constructor) ?_; simp only [Act.put, List.setIfInBounds_toArray, List.set_cons_zero, List.set_cons_succ]))
  refine wpQuiet_nil ?_
  clear hS
  intro ww hS
  go_wp2_with (first | (refine own_unguard (by rfl) ?_) | (go_at_call 70; refine own_calls hS (HX.out _ _ (hS.cell List.not_mem_nil cP)) ?_; clear hS; (try clear ww); intro ww hS) | (go_at_call 64; refine own_calls hS (HM.out _) ?_; clear hS; (try clear ww); intro ww hS) | (refine w_ld rfl _ rfl (by rfl) (by first | exact rd_1 (by repeat constructor) (by first | rfl | assumption) | exact rd_w (by repeat constructor) (by rfl) | exact rd_o (by assumption) (by rfl) (by first | exact nmn | assumption | simp) | exact rd_h (by assumption) (by rfl) (by first | exact nmn | assumption | simp) | exact rd_1o (by assumption) (by first | exact nmn | assumption | simp) | exact rd_1h (by assumption) (by first | rfl | assumption) (by first | exact nmn | assumption | simp)) hS ?_) | (refine own_box rfl _ _ rfl (by rfl) hS ?_; clear hS; (try clear ww); intro bb ww hS) | (refine w_al rfl rfl hS ?_; clear hS; (try clear ww); intro bb ww hS) | (refine w_st rfl _ _ rfl (by rfl) (by rfl) (by repeat constructor) (by rfl) (by rfl) (by first | rfl | assumption) hS ?_; clear hS; (try clear ww); intro ww hS) | (refine w_s1 rfl _ _ rfl (by rfl) (by repeat constructor) (by first | exact .c | exact .t rfl) (by rfl) (by repeat constructor) hS ?_; clear hS; (try clear ww); intro ww hS))
  refine bodyPost_ret (v := .tuple #[.int .i64 0, .int .i64 V]) (by simp [results, Try.results46, go_sem]) rfl ⟨rfl, bthen HB0.out hS.below⟩

set_option maxHeartbeats 16000000 in
set_option maxRecDepth 100000 in
theorem shifts_s010 (F : Fnt) (l p : Int) (c : Bool) (n : Nat) (h d : Int) (b : Bx (n + 1)) (c0 c1 c2 c3 c6 c7 c8 c9 c10 : Value) (w : World) (uk uo : Nat) (u0 u1 u2 u3 u4 u6 u7 u8 u9 u10 : Value) (ud : Int) (sc uc : Nat) (sx : Option Addr) (X M R N : Int) (U : Int) (hr : Rep w (n + 1) b [c0, c1, c2, c3, .int .i64 h, .int .i64 d, c6, c7, c8, c9, c10]) (_bh : -1073741824 ≤ h ∧ h ≤ 1073741824) (_bd : -1073741824 ≤ d ∧ d ≤ 1073741824) (m : Nat) (g : Bx (m + 1)) (hi : innerS (n + 1) b = some ⟨m, g⟩) (hl : 0 ≤ l ∧ l ≤ 3) (hu : w.rangeAt uk uo [u0, u1, u2, u3, u4, .int .i64 ud, u6, u7, u8, u9, u10]) (ha : ([u0, u1, u2, u3, u4, .int .i64 ud, u6, u7, u8, u9, u10] : List Value).all (·.oneCell') = true) (bu : -1073741824 ≤ ud ∧ ud ≤ 1073741824) (eX : X = scl F.xheight p) (eM : M = scl X 80) (eR : R = scl (raiseP F l c) p) (eN : N = scl X 25) (eU : U = max (max 0 R) (ud + N)) (_bX : 0 ≤ X ∧ X ≤ 20000) (_bM : 0 ≤ M ∧ M ≤ 20000) (bR : 0 ≤ R ∧ R ≤ 20000) (bN : 0 ≤ N ∧ N ≤ 20000) :
    Calls Try.prog 46 #[F.val, .agg #[.int .i64 l, .bool c], .int .i64 p, .agg #[c0, c1, c2, c3, .int .i64 h, .int .i64 d, c6, c7, c8, c9, c10], .slice sx 0 sc, .slice (some ⟨uk, uo, none⟩) 1 uc] w (Gives (.tuple #[.int .i64 U, .int .i64 0]) w) := by
  have HI := Lib.hid (fun w' k (h : Below w.heap.size w w') (hk : w'.rangeAt k 0 [c0, c1, c2, c3, .int .i64 _, .int .i64 _, c6, c7, c8, c9, c10]) => innermost_calls (fun k => k < w.heap.size) (n + 1) b _ k 0 w' hk (RepG.step h (n + 1) b _ (rep_old (n + 1) b _ hr)))
  rw [hi] at HI
  have HX := Lib.hid (fun (w' : World) (b : Nat) (hc : w'.cell? ⟨b, 0, none⟩ = some (.int .i64 p)) => show Calls Try.prog 70 #[.int .i64 F.xheight, .pointer (some ⟨b, 0, none⟩)] w' (Gives (.int .i64 X) w') by rw [eX]; exact shifts1_calls _ _ _ _ hc)
  have HM := Lib.hid (fun (w' : World) => show Calls Try.prog 64 #[.int .i64 X, .int .i64 80] w' (Gives (.int .i64 M) w') by rw [eM]; exact length_Scale_gives _ _ _)
  have HN := Lib.hid (fun (w' : World) => show Calls Try.prog 64 #[.int .i64 X, .int .i64 25] w' (Gives (.int .i64 N) w') by rw [eN]; exact length_Scale_gives _ _ _)
  have HR := Lib.hid (fun (w' : World) (b : Nat) (hc : w'.cell? ⟨b, 0, none⟩ = some (.int .i64 p)) => show Calls Try.prog 70 #[.int .i64 (raiseP F l c), .pointer (some ⟨b, 0, none⟩)] w' (Gives (.int .i64 R) w') by rw [eR]; exact shifts1_calls _ _ _ _ hc)
  have HRs := Lib.hid (fun (w' : World) => raise_calls F l c w' (by omega))
  have hmu := fun (w : World) (ts : Array TypeId) (t : TypeId) => eU ▸ run_max3 (P := Try.prog) 0 R (ud + N) w ts t
  have bU : -3000000000 ≤ U ∧ U ≤ 3000000000 := by omega
  have i0 : IntKind.i64.wrap (ud + N) = ud + N := IntWalk.i64_in _ (by omega)
  have HH := Lib.hid hr
  clear hr hi _bh _bd hl eX eM eR eN _bX _bM bR bN eU bU bu
  go_enter Try.func46, Try.ntmps46
  have hS := own_start w
  go_upto_region 1 with (first | (refine own_unguard (by rfl) ?_) | (refine own_box1 (v := .int .i64 p) rfl _ _ rfl rfl rfl hS ?_; clear hS; (try clear ww); intro bb ww hS) | (refine w_ld rfl _ rfl (by rfl) (by first | exact rd_1 (by repeat constructor) (by first | rfl | assumption) | exact rd_w (by repeat constructor) (by rfl) | exact rd_o (by assumption) (by rfl) (by first | exact nmn | assumption | simp) | exact rd_h (by assumption) (by rfl) (by first | exact nmn | assumption | simp) | exact rd_1o (by assumption) (by first | exact nmn | assumption | simp) | exact rd_1h (by assumption) (by first | rfl | assumption) (by first | exact nmn | assumption | simp)) hS ?_) | (refine own_box rfl _ _ rfl (by rfl) hS ?_; clear hS; (try clear ww); intro bb ww hS) | (refine w_al rfl rfl hS ?_; clear hS; (try clear ww); intro bb ww hS) | (refine w_st rfl _ _ rfl (by rfl) (by rfl) (by repeat constructor) (by rfl) (by rfl) (by first | rfl | assumption) hS ?_; clear hS; (try clear ww); intro ww hS) | (refine w_s1 rfl _ _ rfl (by rfl) (by repeat constructor) (by first | exact .c | exact .t rfl) (by rfl) (by repeat constructor) hS ?_; clear hS; (try clear ww); intro ww hS))
  have rF := (hS.get at3).range
  have rS := (hS.get at2).range
  have cP := (hS.get at1).cell 0
  simp only [List.getElem?_cons_zero] at cP
  have rB := (hS.get at0).range
  have HB0 := Lib.hid hS.below
  obtain ⟨rP, p3, p5, p13, p14, p15, p16⟩ := fnt_cells rF
  obtain ⟨bc4, bc5⟩ := box_cells0 rB
  have hu0 := hS.range List.not_mem_nil hu
  have u5 := hu0 5 _ rfl
  clear hu
  clear hS
  have hS := own_start ww
  go_wp2_with (first | (refine own_unguard (by rfl) ?_) | (go_at_call 28; fail) | (refine w_ld rfl _ rfl (by rfl) (by first | exact rd_1 (by repeat constructor) (by first | rfl | assumption) | exact rd_w (by repeat constructor) (by rfl) | exact rd_o (by assumption) (by rfl) (by first | exact nmn | assumption | simp) | exact rd_h (by assumption) (by rfl) (by first | exact nmn | assumption | simp) | exact rd_1o (by assumption) (by first | exact nmn | assumption | simp) | exact rd_1h (by assumption) (by first | rfl | assumption) (by first | exact nmn | assumption | simp)) hS ?_) | (refine own_box rfl _ _ rfl (by rfl) hS ?_; clear hS; (try clear ww); intro bb ww hS) | (refine w_al rfl rfl hS ?_; clear hS; (try clear ww); intro bb ww hS) | (refine w_st rfl _ _ rfl (by rfl) (by rfl) (by repeat constructor) (by rfl) (by rfl) (by first | rfl | assumption) hS ?_; clear hS; (try clear ww); intro ww hS) | (refine w_s1 rfl _ _ rfl (by rfl) (by repeat constructor) (by first | exact .c | exact .t rfl) (by rfl) (by repeat constructor) hS ?_; clear hS; (try clear ww); intro ww hS))
  go_at_call 28
  refine Calls.mono (HI.out _ _ (bthen HB0.out hS.below) (hS.range List.not_mem_nil rB)) ?_
  rintro e w1 ⟨v, rfl, ⟨k, o, gcs, rfl, hkP, hk, hg⟩, hb1⟩
  clear hkP hk hg
  have hS1 := hS.step hb1
  clear hS hb1
  (try clear ww)
  have hS := hS1
  clear hS1
  go_wp2_with (first | (refine own_unguard (by rfl) ?_) | (go_at_call 70; refine own_calls hS (HX.out _ _ (hS.cell List.not_mem_nil cP)) ?_; clear hS; (try clear ww); intro ww hS) | (go_at_call 64; refine own_calls hS (HM.out _) ?_; clear hS; (try clear ww); intro ww hS) | (refine w_ld rfl _ rfl (by rfl) (by first | exact rd_1 (by repeat constructor) (by first | rfl | assumption) | exact rd_w (by repeat constructor) (by rfl) | exact rd_o (by assumption) (by rfl) (by first | exact nmn | assumption | simp) | exact rd_h (by assumption) (by rfl) (by first | exact nmn | assumption | simp) | exact rd_1o (by assumption) (by first | exact nmn | assumption | simp) | exact rd_1h (by assumption) (by first | rfl | assumption) (by first | exact nmn | assumption | simp)) hS ?_) | (refine own_box rfl _ _ rfl (by rfl) hS ?_; clear hS; (try clear ww); intro bb ww hS) | (refine w_al rfl rfl hS ?_; clear hS; (try clear ww); intro bb ww hS) | (refine w_st rfl _ _ rfl (by rfl) (by rfl) (by repeat constructor) (by rfl) (by rfl) (by first | rfl | assumption) hS ?_; clear hS; (try clear ww); intro ww hS) | (refine w_s1 rfl _ _ rfl (by rfl) (by repeat constructor) (by first | exact .c | exact .t rfl) (by rfl) (by repeat constructor) hS ?_; clear hS; (try clear ww); intro ww hS))
  refine wp_loop_rounds 2 ?_
  rw [rounds_succ]
  go_upto_region 12 with (first | (refine own_unguard (by rfl) ?_) | (go_at_call 70; refine own_calls hS (HX.out _ _ (hS.cell List.not_mem_nil cP)) ?_; clear hS; (try clear ww); intro ww hS) | (go_at_call 64; refine own_calls hS (HM.out _) ?_; clear hS; (try clear ww); intro ww hS) | (refine w_ld rfl _ rfl (by rfl) (by first | exact rd_1 (by repeat constructor) (by first | rfl | assumption) | exact rd_w (by repeat constructor) (by rfl) | exact rd_o (by assumption) (by rfl) (by first | exact nmn | assumption | simp) | exact rd_h (by assumption) (by rfl) (by first | exact nmn | assumption | simp) | exact rd_1o (by assumption) (by first | exact nmn | assumption | simp) | exact rd_1h (by assumption) (by first | rfl | assumption) (by first | exact nmn | assumption | simp)) hS ?_) | (refine own_box rfl _ _ rfl (by rfl) hS ?_; clear hS; (try clear ww); intro bb ww hS) | (refine w_al rfl rfl hS ?_; clear hS; (try clear ww); intro bb ww hS) | (refine w_st rfl _ _ rfl (by rfl) (by rfl) (by repeat constructor) (by rfl) (by rfl) (by first | rfl | assumption) hS ?_; clear hS; (try clear ww); intro ww hS) | (refine w_s1 rfl _ _ rfl (by rfl) (by repeat constructor) (by first | exact .c | exact .t rfl) (by rfl) (by repeat constructor) hS ?_; clear hS; (try clear ww); intro ww hS))
  (try simp only [Act.put]); (try simp only [List.setIfInBounds_toArray]); (try simp only [List.set_cons_succ]); (try simp only [List.set_cons_zero])
  refine own_region hS (by kernel_rfl) (by kernel_rfl) ?_
  (try simp only [List.append])
  (try simp only); (try simp only [List.drop_succ_cons]); (try simp only [List.drop_zero]); (try simp only [List.take_succ_cons]); (try simp only [List.take_zero])
  repeat (first
      | (first | (refine quiet_plain rfl ?_) | (refine quiet_yes rfl rfl rfl (by simp only [List.getElem?_toArray, List.getElem?_cons_succ, List.getElem?_cons_zero]; rfl) (by with_reducible constructor) ?_)
         apply Exists.intro; refine ⟨?_, ?_⟩
         focus (intro wq hq0; have hq : Own _ _ _ wq := hq0; first | (exact quietAt_rd rfl (by rfl) (by first | exact rd_1 (by repeat constructor) (by first | rfl | assumption) | exact rd_w (by repeat constructor) (by rfl) | exact rd_o (by assumption) (by rfl) (by first | exact nmn | assumption | simp) | exact rd_h (by assumption) (by rfl) (by first | exact nmn | assumption | simp) | exact rd_1o (by assumption) (by first | exact nmn | assumption | simp) | exact rd_1h (by assumption) (by first | rfl | assumption) (by first | exact nmn | assumption | simp)) hq) | (go_simp; first | (go_at_call 70; exact quietG hq (HR.out _ _ (hq.cell List.not_mem_nil cP))) | (go_at_call 72; exact quietG hq (HRs.out _)) | (go_at_call 64; exact quietG hq (HN.out _)) | (with_reducible rfl)))
         simp only [Act.put, List.setIfInBounds_toArray, List.set_cons_zero, List.set_cons_succ])
      | (refine quiet_no rfl rfl rfl (by simp only [List.getElem?_toArray, List.getElem?_cons_succ, List.getElem?_cons_zero]; rfl) (by with_reducible constructor) ?_; simp only [Act.put, List.setIfInBounds_toArray, List.set_cons_zero, List.set_cons_succ]))
  refine wpQuiet_nil ?_
  clear hS
  intro ww hS
  go_wp2_with (first | (refine own_unguard (by rfl) ?_) | (go_at_call 70; refine own_calls hS (HX.out _ _ (hS.cell List.not_mem_nil cP)) ?_; clear hS; (try clear ww); intro ww hS) | (go_at_call 64; refine own_calls hS (HM.out _) ?_; clear hS; (try clear ww); intro ww hS) | (refine w_ld rfl _ rfl (by rfl) (by first | exact rd_1 (by repeat constructor) (by first | rfl | assumption) | exact rd_w (by repeat constructor) (by rfl) | exact rd_o (by assumption) (by rfl) (by first | exact nmn | assumption | simp) | exact rd_h (by assumption) (by rfl) (by first | exact nmn | assumption | simp) | exact rd_1o (by assumption) (by first | exact nmn | assumption | simp) | exact rd_1h (by assumption) (by first | rfl | assumption) (by first | exact nmn | assumption | simp)) hS ?_) | (refine own_box rfl _ _ rfl (by rfl) hS ?_; clear hS; (try clear ww); intro bb ww hS) | (refine w_al rfl rfl hS ?_; clear hS; (try clear ww); intro bb ww hS) | (refine w_st rfl _ _ rfl (by rfl) (by rfl) (by repeat constructor) (by rfl) (by rfl) (by first | rfl | assumption) hS ?_; clear hS; (try clear ww); intro ww hS) | (refine w_s1 rfl _ _ rfl (by rfl) (by repeat constructor) (by first | exact .c | exact .t rfl) (by rfl) (by repeat constructor) hS ?_; clear hS; (try clear ww); intro ww hS))
  rw [rounds_succ]
  go_wp2_with (first | (refine own_unguard (by rfl) ?_) | (go_at_call 70; refine own_calls hS (HX.out _ _ (hS.cell List.not_mem_nil cP)) ?_; clear hS; (try clear ww); intro ww hS) | (go_at_call 64; refine own_calls hS (HM.out _) ?_; clear hS; (try clear ww); intro ww hS) | (refine w_ld rfl _ rfl (by rfl) (by first | exact rd_1 (by repeat constructor) (by first | rfl | assumption) | exact rd_w (by repeat constructor) (by rfl) | exact rd_o (by assumption) (by rfl) (by first | exact nmn | assumption | simp) | exact rd_h (by assumption) (by rfl) (by first | exact nmn | assumption | simp) | exact rd_1o (by assumption) (by first | exact nmn | assumption | simp) | exact rd_1h (by assumption) (by first | rfl | assumption) (by first | exact nmn | assumption | simp)) hS ?_) | (refine own_box rfl _ _ rfl (by rfl) hS ?_; clear hS; (try clear ww); intro bb ww hS) | (refine w_al rfl rfl hS ?_; clear hS; (try clear ww); intro bb ww hS) | (refine w_st rfl _ _ rfl (by rfl) (by rfl) (by repeat constructor) (by rfl) (by rfl) (by first | rfl | assumption) hS ?_; clear hS; (try clear ww); intro ww hS) | (refine w_s1 rfl _ _ rfl (by rfl) (by repeat constructor) (by first | exact .c | exact .t rfl) (by rfl) (by repeat constructor) hS ?_; clear hS; (try clear ww); intro ww hS))
  refine bodyPost_ret (v := .tuple #[.int .i64 U, .int .i64 0]) (by simp [results, Try.results46, go_sem]) rfl ⟨rfl, bthen HB0.out hS.below⟩

set_option maxHeartbeats 16000000 in
set_option maxRecDepth 100000 in
theorem shifts_s110 (F : Fnt) (l p : Int) (c : Bool) (n : Nat) (h d : Int) (b : Bx (n + 1)) (c0 c1 c2 c3 c6 c7 c8 c9 c10 : Value) (w : World) (sk so : Nat) (s0 s1 s2 s3 s5 s6 s7 s8 s9 s10 : Value) (sh : Int) (uk uo : Nat) (u0 u1 u2 u3 u4 u6 u7 u8 u9 u10 : Value) (ud : Int) (sc uc : Nat) (X M R N S2 r : Int) (U : Int) (V : Int) (hr : Rep w (n + 1) b [c0, c1, c2, c3, .int .i64 h, .int .i64 d, c6, c7, c8, c9, c10]) (_bh : -1073741824 ≤ h ∧ h ≤ 1073741824) (_bd : -1073741824 ≤ d ∧ d ≤ 1073741824) (m : Nat) (g : Bx (m + 1)) (hi : innerS (n + 1) b = some ⟨m, g⟩) (hl : 0 ≤ l ∧ l ≤ 3) (hs : w.rangeAt sk so [s0, s1, s2, s3, .int .i64 sh, s5, s6, s7, s8, s9, s10]) (bs : -1073741824 ≤ sh ∧ sh ≤ 1073741824) (hu : w.rangeAt uk uo [u0, u1, u2, u3, u4, .int .i64 ud, u6, u7, u8, u9, u10]) (ha : ([u0, u1, u2, u3, u4, .int .i64 ud, u6, u7, u8, u9, u10] : List Value).all (·.oneCell') = true) (bu : -1073741824 ≤ ud ∧ ud ≤ 1073741824) (eX : X = scl F.xheight p) (eM : M = scl X 80) (eR : R = scl (raiseP F l c) p) (eN : N = scl X 25) (eS2 : S2 = scl F.sub2 p) (er : r = scl F.rule p) (eU : U = max (max 0 R) (ud + N)) (eV : V = max 0 S2) (hg : ¬ ((U - ud) - (sh - V)) < 4 * r) (_bX : 0 ≤ X ∧ X ≤ 20000) (_bM : 0 ≤ M ∧ M ≤ 20000) (bR : 0 ≤ R ∧ R ≤ 20000) (bN : 0 ≤ N ∧ N ≤ 20000) (bS2 : 0 ≤ S2 ∧ S2 ≤ 20000) (br : 0 ≤ r ∧ r ≤ 20000) :
    Calls Try.prog 46 #[F.val, .agg #[.int .i64 l, .bool c], .int .i64 p, .agg #[c0, c1, c2, c3, .int .i64 h, .int .i64 d, c6, c7, c8, c9, c10], .slice (some ⟨sk, so, none⟩) 1 sc, .slice (some ⟨uk, uo, none⟩) 1 uc] w (Gives (.tuple #[.int .i64 U, .int .i64 V]) w) := by
  have HI := Lib.hid (fun w' k (h : Below w.heap.size w w') (hk : w'.rangeAt k 0 [c0, c1, c2, c3, .int .i64 _, .int .i64 _, c6, c7, c8, c9, c10]) => innermost_calls (fun k => k < w.heap.size) (n + 1) b _ k 0 w' hk (RepG.step h (n + 1) b _ (rep_old (n + 1) b _ hr)))
  rw [hi] at HI
  have HX := Lib.hid (fun (w' : World) (b : Nat) (hc : w'.cell? ⟨b, 0, none⟩ = some (.int .i64 p)) => show Calls Try.prog 70 #[.int .i64 F.xheight, .pointer (some ⟨b, 0, none⟩)] w' (Gives (.int .i64 X) w') by rw [eX]; exact shifts1_calls _ _ _ _ hc)
  have HM := Lib.hid (fun (w' : World) => show Calls Try.prog 64 #[.int .i64 X, .int .i64 80] w' (Gives (.int .i64 M) w') by rw [eM]; exact length_Scale_gives _ _ _)
  have HN := Lib.hid (fun (w' : World) => show Calls Try.prog 64 #[.int .i64 X, .int .i64 25] w' (Gives (.int .i64 N) w') by rw [eN]; exact length_Scale_gives _ _ _)
  have HR := Lib.hid (fun (w' : World) (b : Nat) (hc : w'.cell? ⟨b, 0, none⟩ = some (.int .i64 p)) => show Calls Try.prog 70 #[.int .i64 (raiseP F l c), .pointer (some ⟨b, 0, none⟩)] w' (Gives (.int .i64 R) w') by rw [eR]; exact shifts1_calls _ _ _ _ hc)
  have HRs := Lib.hid (fun (w' : World) => raise_calls F l c w' (by omega))
  have HS2 := Lib.hid (fun (w' : World) (b : Nat) (hc : w'.cell? ⟨b, 0, none⟩ = some (.int .i64 p)) => show Calls Try.prog 70 #[.int .i64 F.sub2, .pointer (some ⟨b, 0, none⟩)] w' (Gives (.int .i64 S2) w') by rw [eS2]; exact shifts1_calls _ _ _ _ hc)
  have Hr := Lib.hid (fun (w' : World) (b : Nat) (hc : w'.cell? ⟨b, 0, none⟩ = some (.int .i64 p)) => show Calls Try.prog 70 #[.int .i64 F.rule, .pointer (some ⟨b, 0, none⟩)] w' (Gives (.int .i64 r) w') by rw [er]; exact shifts1_calls _ _ _ _ hc)
  have hmu := fun (w : World) (ts : Array TypeId) (t : TypeId) => eU ▸ run_max3 (P := Try.prog) 0 R (ud + N) w ts t
  have hmv := fun (w : World) (ts : Array TypeId) (t : TypeId) => eV ▸ run_max2 (P := Try.prog) 0 S2 w ts t
  have bU : -3000000000 ≤ U ∧ U ≤ 3000000000 := by omega
  have bV : -3000000000 ≤ V ∧ V ≤ 3000000000 := by omega
  have i0 : IntKind.i64.wrap (ud + N) = ud + N := IntWalk.i64_in _ (by omega)
  have i1 : IntKind.i64.wrap (U - ud) = U - ud := IntWalk.i64_in _ (by omega)
  have i2 : IntKind.i64.wrap (sh - V) = sh - V := IntWalk.i64_in _ (by omega)
  have i3 : IntKind.i64.wrap ((U - ud) - (sh - V)) = (U - ud) - (sh - V) := IntWalk.i64_in _ (by omega)
  have i4 : IntKind.i64.wrap (4 * r) = 4 * r := IntWalk.i64_in _ (by omega)
  have t1 : decide ((U - ud) - (sh - V) < 4 * r) = false := decide_eq_false hg
  have HH := Lib.hid hr
  clear hr hi _bh _bd hl eX eM eR eN eS2 er _bX _bM bR bN bS2 br eU bU bu eV bV bs hg
  go_enter Try.func46, Try.ntmps46
  have hS := own_start w
  go_upto_region 1 with (first | (refine own_unguard (by rfl) ?_) | (refine own_box1 (v := .int .i64 p) rfl _ _ rfl rfl rfl hS ?_; clear hS; (try clear ww); intro bb ww hS) | (refine w_ld rfl _ rfl (by rfl) (by first | exact rd_1 (by repeat constructor) (by first | rfl | assumption) | exact rd_w (by repeat constructor) (by rfl) | exact rd_o (by assumption) (by rfl) (by first | exact nmn | assumption | simp) | exact rd_h (by assumption) (by rfl) (by first | exact nmn | assumption | simp) | exact rd_1o (by assumption) (by first | exact nmn | assumption | simp) | exact rd_1h (by assumption) (by first | rfl | assumption) (by first | exact nmn | assumption | simp)) hS ?_) | (refine own_box rfl _ _ rfl (by rfl) hS ?_; clear hS; (try clear ww); intro bb ww hS) | (refine w_al rfl rfl hS ?_; clear hS; (try clear ww); intro bb ww hS) | (refine w_st rfl _ _ rfl (by rfl) (by rfl) (by repeat constructor) (by rfl) (by rfl) (by first | rfl | assumption) hS ?_; clear hS; (try clear ww); intro ww hS) | (refine w_s1 rfl _ _ rfl (by rfl) (by repeat constructor) (by first | exact .c | exact .t rfl) (by rfl) (by repeat constructor) hS ?_; clear hS; (try clear ww); intro ww hS))
  have rF := (hS.get at3).range
  have rS := (hS.get at2).range
  have cP := (hS.get at1).cell 0
  simp only [List.getElem?_cons_zero] at cP
  have rB := (hS.get at0).range
  have HB0 := Lib.hid hS.below
  obtain ⟨rP, p3, p5, p13, p14, p15, p16⟩ := fnt_cells rF
  obtain ⟨bc4, bc5⟩ := box_cells0 rB
  have hs0 := hS.range List.not_mem_nil hs
  have s4 := hs0 4 _ rfl
  clear hs
  have hu0 := hS.range List.not_mem_nil hu
  have u5 := hu0 5 _ rfl
  clear hu
  clear hS
  have hS := own_start ww
  go_wp2_with (first | (refine own_unguard (by rfl) ?_) | (go_at_call 28; fail) | (refine w_ld rfl _ rfl (by rfl) (by first | exact rd_1 (by repeat constructor) (by first | rfl | assumption) | exact rd_w (by repeat constructor) (by rfl) | exact rd_o (by assumption) (by rfl) (by first | exact nmn | assumption | simp) | exact rd_h (by assumption) (by rfl) (by first | exact nmn | assumption | simp) | exact rd_1o (by assumption) (by first | exact nmn | assumption | simp) | exact rd_1h (by assumption) (by first | rfl | assumption) (by first | exact nmn | assumption | simp)) hS ?_) | (refine own_box rfl _ _ rfl (by rfl) hS ?_; clear hS; (try clear ww); intro bb ww hS) | (refine w_al rfl rfl hS ?_; clear hS; (try clear ww); intro bb ww hS) | (refine w_st rfl _ _ rfl (by rfl) (by rfl) (by repeat constructor) (by rfl) (by rfl) (by first | rfl | assumption) hS ?_; clear hS; (try clear ww); intro ww hS) | (refine w_s1 rfl _ _ rfl (by rfl) (by repeat constructor) (by first | exact .c | exact .t rfl) (by rfl) (by repeat constructor) hS ?_; clear hS; (try clear ww); intro ww hS))
  go_at_call 28
  refine Calls.mono (HI.out _ _ (bthen HB0.out hS.below) (hS.range List.not_mem_nil rB)) ?_
  rintro e w1 ⟨v, rfl, ⟨k, o, gcs, rfl, hkP, hk, hg⟩, hb1⟩
  clear hkP hk hg
  have hS1 := hS.step hb1
  clear hS hb1
  (try clear ww)
  have hS := hS1
  clear hS1
  go_wp2_with (first | (refine own_unguard (by rfl) ?_) | (go_at_call 70; refine own_calls hS (HX.out _ _ (hS.cell List.not_mem_nil cP)) ?_; clear hS; (try clear ww); intro ww hS) | (go_at_call 70; refine own_calls hS (HS2.out _ _ (hS.cell List.not_mem_nil cP)) ?_; clear hS; (try clear ww); intro ww hS) | (go_at_call 70; refine own_calls hS (Hr.out _ _ (hS.cell List.not_mem_nil cP)) ?_; clear hS; (try clear ww); intro ww hS) | (go_at_call 64; refine own_calls hS (HM.out _) ?_; clear hS; (try clear ww); intro ww hS) | (refine w_ld rfl _ rfl (by rfl) (by first | exact rd_1 (by repeat constructor) (by first | rfl | assumption) | exact rd_w (by repeat constructor) (by rfl) | exact rd_o (by assumption) (by rfl) (by first | exact nmn | assumption | simp) | exact rd_h (by assumption) (by rfl) (by first | exact nmn | assumption | simp) | exact rd_1o (by assumption) (by first | exact nmn | assumption | simp) | exact rd_1h (by assumption) (by first | rfl | assumption) (by first | exact nmn | assumption | simp)) hS ?_) | (refine own_box rfl _ _ rfl (by rfl) hS ?_; clear hS; (try clear ww); intro bb ww hS) | (refine w_al rfl rfl hS ?_; clear hS; (try clear ww); intro bb ww hS) | (refine w_st rfl _ _ rfl (by rfl) (by rfl) (by repeat constructor) (by rfl) (by rfl) (by first | rfl | assumption) hS ?_; clear hS; (try clear ww); intro ww hS) | (refine w_s1 rfl _ _ rfl (by rfl) (by repeat constructor) (by first | exact .c | exact .t rfl) (by rfl) (by repeat constructor) hS ?_; clear hS; (try clear ww); intro ww hS))
  refine wp_loop_rounds 2 ?_
  rw [rounds_succ]
  go_upto_region 12 with (first | (refine own_unguard (by rfl) ?_) | (go_at_call 70; refine own_calls hS (HX.out _ _ (hS.cell List.not_mem_nil cP)) ?_; clear hS; (try clear ww); intro ww hS) | (go_at_call 70; refine own_calls hS (HS2.out _ _ (hS.cell List.not_mem_nil cP)) ?_; clear hS; (try clear ww); intro ww hS) | (go_at_call 70; refine own_calls hS (Hr.out _ _ (hS.cell List.not_mem_nil cP)) ?_; clear hS; (try clear ww); intro ww hS) | (go_at_call 64; refine own_calls hS (HM.out _) ?_; clear hS; (try clear ww); intro ww hS) | (refine w_ld rfl _ rfl (by rfl) (by first | exact rd_1 (by repeat constructor) (by first | rfl | assumption) | exact rd_w (by repeat constructor) (by rfl) | exact rd_o (by assumption) (by rfl) (by first | exact nmn | assumption | simp) | exact rd_h (by assumption) (by rfl) (by first | exact nmn | assumption | simp) | exact rd_1o (by assumption) (by first | exact nmn | assumption | simp) | exact rd_1h (by assumption) (by first | rfl | assumption) (by first | exact nmn | assumption | simp)) hS ?_) | (refine own_box rfl _ _ rfl (by rfl) hS ?_; clear hS; (try clear ww); intro bb ww hS) | (refine w_al rfl rfl hS ?_; clear hS; (try clear ww); intro bb ww hS) | (refine w_st rfl _ _ rfl (by rfl) (by rfl) (by repeat constructor) (by rfl) (by rfl) (by first | rfl | assumption) hS ?_; clear hS; (try clear ww); intro ww hS) | (refine w_s1 rfl _ _ rfl (by rfl) (by repeat constructor) (by first | exact .c | exact .t rfl) (by rfl) (by repeat constructor) hS ?_; clear hS; (try clear ww); intro ww hS))
  (try simp only [Act.put]); (try simp only [List.setIfInBounds_toArray]); (try simp only [List.set_cons_succ]); (try simp only [List.set_cons_zero])
  refine own_region hS (by kernel_rfl) (by kernel_rfl) ?_
  (try simp only [List.append])
  (try simp only); (try simp only [List.drop_succ_cons]); (try simp only [List.drop_zero]); (try simp only [List.take_succ_cons]); (try simp only [List.take_zero])
  repeat (first
      | (first | (refine quiet_plain rfl ?_) | (refine quiet_yes rfl rfl rfl (by simp only [List.getElem?_toArray, List.getElem?_cons_succ, List.getElem?_cons_zero]; rfl) (by with_reducible constructor) ?_)
         apply Exists.intro; refine ⟨?_, ?_⟩
         focus (intro wq hq0; have hq : Own _ _ _ wq := hq0; first | (exact quietAt_rd rfl (by rfl) (by first | exact rd_1 (by repeat constructor) (by first | rfl | assumption) | exact rd_w (by repeat constructor) (by rfl) | exact rd_o (by assumption) (by rfl) (by first | exact nmn | assumption | simp) | exact rd_h (by assumption) (by rfl) (by first | exact nmn | assumption | simp) | exact rd_1o (by assumption) (by first | exact nmn | assumption | simp) | exact rd_1h (by assumption) (by first | rfl | assumption) (by first | exact nmn | assumption | simp)) hq) | (go_simp; first | (go_at_call 70; exact quietG hq (HR.out _ _ (hq.cell List.not_mem_nil cP))) | (go_at_call 72; exact quietG hq (HRs.out _)) | (go_at_call 64; exact quietG hq (HN.out _)) | (with_reducible rfl)))
         simp only [Act.put, List.setIfInBounds_toArray, List.set_cons_zero, List.set_cons_succ])
      | (refine quiet_no rfl rfl rfl (by simp only [List.getElem?_toArray, List.getElem?_cons_succ, List.getElem?_cons_zero]; rfl) (by with_reducible constructor) ?_; simp only [Act.put, List.setIfInBounds_toArray, List.set_cons_zero, List.set_cons_succ]))
  refine wpQuiet_nil ?_
  clear hS
  intro ww hS
  go_wp2_with (first | (refine own_unguard (by rfl) ?_) | (go_at_call 70; refine own_calls hS (HX.out _ _ (hS.cell List.not_mem_nil cP)) ?_; clear hS; (try clear ww); intro ww hS) | (go_at_call 70; refine own_calls hS (HS2.out _ _ (hS.cell List.not_mem_nil cP)) ?_; clear hS; (try clear ww); intro ww hS) | (go_at_call 70; refine own_calls hS (Hr.out _ _ (hS.cell List.not_mem_nil cP)) ?_; clear hS; (try clear ww); intro ww hS) | (go_at_call 64; refine own_calls hS (HM.out _) ?_; clear hS; (try clear ww); intro ww hS) | (refine w_ld rfl _ rfl (by rfl) (by first | exact rd_1 (by repeat constructor) (by first | rfl | assumption) | exact rd_w (by repeat constructor) (by rfl) | exact rd_o (by assumption) (by rfl) (by first | exact nmn | assumption | simp) | exact rd_h (by assumption) (by rfl) (by first | exact nmn | assumption | simp) | exact rd_1o (by assumption) (by first | exact nmn | assumption | simp) | exact rd_1h (by assumption) (by first | rfl | assumption) (by first | exact nmn | assumption | simp)) hS ?_) | (refine own_box rfl _ _ rfl (by rfl) hS ?_; clear hS; (try clear ww); intro bb ww hS) | (refine w_al rfl rfl hS ?_; clear hS; (try clear ww); intro bb ww hS) | (refine w_st rfl _ _ rfl (by rfl) (by rfl) (by repeat constructor) (by rfl) (by rfl) (by first | rfl | assumption) hS ?_; clear hS; (try clear ww); intro ww hS) | (refine w_s1 rfl _ _ rfl (by rfl) (by repeat constructor) (by first | exact .c | exact .t rfl) (by rfl) (by repeat constructor) hS ?_; clear hS; (try clear ww); intro ww hS))
  rw [rounds_succ]
  go_wp2_with (first | (refine own_unguard (by rfl) ?_) | (go_at_call 70; refine own_calls hS (HX.out _ _ (hS.cell List.not_mem_nil cP)) ?_; clear hS; (try clear ww); intro ww hS) | (go_at_call 70; refine own_calls hS (HS2.out _ _ (hS.cell List.not_mem_nil cP)) ?_; clear hS; (try clear ww); intro ww hS) | (go_at_call 70; refine own_calls hS (Hr.out _ _ (hS.cell List.not_mem_nil cP)) ?_; clear hS; (try clear ww); intro ww hS) | (go_at_call 64; refine own_calls hS (HM.out _) ?_; clear hS; (try clear ww); intro ww hS) | (refine w_ld rfl _ rfl (by rfl) (by first | exact rd_1 (by repeat constructor) (by first | rfl | assumption) | exact rd_w (by repeat constructor) (by rfl) | exact rd_o (by assumption) (by rfl) (by first | exact nmn | assumption | simp) | exact rd_h (by assumption) (by rfl) (by first | exact nmn | assumption | simp) | exact rd_1o (by assumption) (by first | exact nmn | assumption | simp) | exact rd_1h (by assumption) (by first | rfl | assumption) (by first | exact nmn | assumption | simp)) hS ?_) | (refine own_box rfl _ _ rfl (by rfl) hS ?_; clear hS; (try clear ww); intro bb ww hS) | (refine w_al rfl rfl hS ?_; clear hS; (try clear ww); intro bb ww hS) | (refine w_st rfl _ _ rfl (by rfl) (by rfl) (by repeat constructor) (by rfl) (by rfl) (by first | rfl | assumption) hS ?_; clear hS; (try clear ww); intro ww hS) | (refine w_s1 rfl _ _ rfl (by rfl) (by repeat constructor) (by first | exact .c | exact .t rfl) (by rfl) (by repeat constructor) hS ?_; clear hS; (try clear ww); intro ww hS))
  refine bodyPost_ret (v := .tuple #[.int .i64 U, .int .i64 V]) (by simp [results, Try.results46, go_sem]) rfl ⟨rfl, bthen HB0.out hS.below⟩

set_option maxHeartbeats 16000000 in
set_option maxRecDepth 100000 in
theorem shifts_s111 (F : Fnt) (l p : Int) (c : Bool) (n : Nat) (h d : Int) (b : Bx (n + 1)) (c0 c1 c2 c3 c6 c7 c8 c9 c10 : Value) (w : World) (sk so : Nat) (s0 s1 s2 s3 s5 s6 s7 s8 s9 s10 : Value) (sh : Int) (uk uo : Nat) (u0 u1 u2 u3 u4 u6 u7 u8 u9 u10 : Value) (ud : Int) (sc uc : Nat) (X M R N S2 r : Int) (U : Int) (V : Int) (hr : Rep w (n + 1) b [c0, c1, c2, c3, .int .i64 h, .int .i64 d, c6, c7, c8, c9, c10]) (_bh : -1073741824 ≤ h ∧ h ≤ 1073741824) (_bd : -1073741824 ≤ d ∧ d ≤ 1073741824) (m : Nat) (g : Bx (m + 1)) (hi : innerS (n + 1) b = some ⟨m, g⟩) (hl : 0 ≤ l ∧ l ≤ 3) (hs : w.rangeAt sk so [s0, s1, s2, s3, .int .i64 sh, s5, s6, s7, s8, s9, s10]) (bs : -1073741824 ≤ sh ∧ sh ≤ 1073741824) (hu : w.rangeAt uk uo [u0, u1, u2, u3, u4, .int .i64 ud, u6, u7, u8, u9, u10]) (ha : ([u0, u1, u2, u3, u4, .int .i64 ud, u6, u7, u8, u9, u10] : List Value).all (·.oneCell') = true) (bu : -1073741824 ≤ ud ∧ ud ≤ 1073741824) (eX : X = scl F.xheight p) (eM : M = scl X 80) (eR : R = scl (raiseP F l c) p) (eN : N = scl X 25) (eS2 : S2 = scl F.sub2 p) (er : r = scl F.rule p) (eU : U = max (max 0 R) (ud + N)) (eV : V = max 0 S2) (hg : ((U - ud) - (sh - V)) < 4 * r) (hm : ¬ 0 < M - (U - ud)) (_bX : 0 ≤ X ∧ X ≤ 20000) (bM : 0 ≤ M ∧ M ≤ 20000) (_bR : 0 ≤ R ∧ R ≤ 20000) (bN : 0 ≤ N ∧ N ≤ 20000) (bS2 : 0 ≤ S2 ∧ S2 ≤ 20000) (br : 0 ≤ r ∧ r ≤ 20000) :
    Calls Try.prog 46 #[F.val, .agg #[.int .i64 l, .bool c], .int .i64 p, .agg #[c0, c1, c2, c3, .int .i64 h, .int .i64 d, c6, c7, c8, c9, c10], .slice (some ⟨sk, so, none⟩) 1 sc, .slice (some ⟨uk, uo, none⟩) 1 uc] w (Gives (.tuple #[.int .i64 U, .int .i64 (V + (4 * r - ((U - ud) - (sh - V))))]) w) := by
  have HI := Lib.hid (fun w' k (h : Below w.heap.size w w') (hk : w'.rangeAt k 0 [c0, c1, c2, c3, .int .i64 _, .int .i64 _, c6, c7, c8, c9, c10]) => innermost_calls (fun k => k < w.heap.size) (n + 1) b _ k 0 w' hk (RepG.step h (n + 1) b _ (rep_old (n + 1) b _ hr)))
  rw [hi] at HI
  have HX := Lib.hid (fun (w' : World) (b : Nat) (hc : w'.cell? ⟨b, 0, none⟩ = some (.int .i64 p)) => show Calls Try.prog 70 #[.int .i64 F.xheight, .pointer (some ⟨b, 0, none⟩)] w' (Gives (.int .i64 X) w') by rw [eX]; exact shifts1_calls _ _ _ _ hc)
  have HM := Lib.hid (fun (w' : World) => show Calls Try.prog 64 #[.int .i64 X, .int .i64 80] w' (Gives (.int .i64 M) w') by rw [eM]; exact length_Scale_gives _ _ _)
  have HN := Lib.hid (fun (w' : World) => show Calls Try.prog 64 #[.int .i64 X, .int .i64 25] w' (Gives (.int .i64 N) w') by rw [eN]; exact length_Scale_gives _ _ _)
  have HR := Lib.hid (fun (w' : World) (b : Nat) (hc : w'.cell? ⟨b, 0, none⟩ = some (.int .i64 p)) => show Calls Try.prog 70 #[.int .i64 (raiseP F l c), .pointer (some ⟨b, 0, none⟩)] w' (Gives (.int .i64 R) w') by rw [eR]; exact shifts1_calls _ _ _ _ hc)
  have HRs := Lib.hid (fun (w' : World) => raise_calls F l c w' (by omega))
  have HS2 := Lib.hid (fun (w' : World) (b : Nat) (hc : w'.cell? ⟨b, 0, none⟩ = some (.int .i64 p)) => show Calls Try.prog 70 #[.int .i64 F.sub2, .pointer (some ⟨b, 0, none⟩)] w' (Gives (.int .i64 S2) w') by rw [eS2]; exact shifts1_calls _ _ _ _ hc)
  have Hr := Lib.hid (fun (w' : World) (b : Nat) (hc : w'.cell? ⟨b, 0, none⟩ = some (.int .i64 p)) => show Calls Try.prog 70 #[.int .i64 F.rule, .pointer (some ⟨b, 0, none⟩)] w' (Gives (.int .i64 r) w') by rw [er]; exact shifts1_calls _ _ _ _ hc)
  have hmu := fun (w : World) (ts : Array TypeId) (t : TypeId) => eU ▸ run_max3 (P := Try.prog) 0 R (ud + N) w ts t
  have hmv := fun (w : World) (ts : Array TypeId) (t : TypeId) => eV ▸ run_max2 (P := Try.prog) 0 S2 w ts t
  have bU : -3000000000 ≤ U ∧ U ≤ 3000000000 := by omega
  have bV : -3000000000 ≤ V ∧ V ≤ 3000000000 := by omega
  have i0 : IntKind.i64.wrap (ud + N) = ud + N := IntWalk.i64_in _ (by omega)
  have i1 : IntKind.i64.wrap (U - ud) = U - ud := IntWalk.i64_in _ (by omega)
  have i2 : IntKind.i64.wrap (sh - V) = sh - V := IntWalk.i64_in _ (by omega)
  have i3 : IntKind.i64.wrap ((U - ud) - (sh - V)) = (U - ud) - (sh - V) := IntWalk.i64_in _ (by omega)
  have i4 : IntKind.i64.wrap (4 * r) = 4 * r := IntWalk.i64_in _ (by omega)
  have i5 : IntKind.i64.wrap (4 * r - ((U - ud) - (sh - V))) = 4 * r - ((U - ud) - (sh - V)) := IntWalk.i64_in _ (by omega)
  have i6 : IntKind.i64.wrap (V + (4 * r - ((U - ud) - (sh - V)))) = V + (4 * r - ((U - ud) - (sh - V))) := IntWalk.i64_in _ (by omega)
  have i7 : IntKind.i64.wrap (M - (U - ud)) = M - (U - ud) := IntWalk.i64_in _ (by omega)
  have t1 : decide ((U - ud) - (sh - V) < 4 * r) = true := decide_eq_true hg
  have t2 : decide (0 < M - (U - ud)) = false := decide_eq_false hm
  have t3 : decide (U - ud < M) = false := decide_eq_false (by omega)
  have HH := Lib.hid hr
  clear hr hi _bh _bd hl eX eM eR eN eS2 er _bX bM _bR bN bS2 br eU bU bu eV bV bs hg hm
  go_enter Try.func46, Try.ntmps46
  have hS := own_start w
  go_upto_region 1 with (first | (refine own_unguard (by rfl) ?_) | (refine own_box1 (v := .int .i64 p) rfl _ _ rfl rfl rfl hS ?_; clear hS; (try clear ww); intro bb ww hS) | (refine w_ld rfl _ rfl (by rfl) (by first | exact rd_1 (by repeat constructor) (by first | rfl | assumption) | exact rd_w (by repeat constructor) (by rfl) | exact rd_o (by assumption) (by rfl) (by first | exact nmn | assumption | simp) | exact rd_h (by assumption) (by rfl) (by first | exact nmn | assumption | simp) | exact rd_1o (by assumption) (by first | exact nmn | assumption | simp) | exact rd_1h (by assumption) (by first | rfl | assumption) (by first | exact nmn | assumption | simp)) hS ?_) | (refine own_box rfl _ _ rfl (by rfl) hS ?_; clear hS; (try clear ww); intro bb ww hS) | (refine w_al rfl rfl hS ?_; clear hS; (try clear ww); intro bb ww hS) | (refine w_st rfl _ _ rfl (by rfl) (by rfl) (by repeat constructor) (by rfl) (by rfl) (by first | rfl | assumption) hS ?_; clear hS; (try clear ww); intro ww hS) | (refine w_s1 rfl _ _ rfl (by rfl) (by repeat constructor) (by first | exact .c | exact .t rfl) (by rfl) (by repeat constructor) hS ?_; clear hS; (try clear ww); intro ww hS))
  have rF := (hS.get at3).range
  have rS := (hS.get at2).range
  have cP := (hS.get at1).cell 0
  simp only [List.getElem?_cons_zero] at cP
  have rB := (hS.get at0).range
  have HB0 := Lib.hid hS.below
  obtain ⟨rP, p3, p5, p13, p14, p15, p16⟩ := fnt_cells rF
  obtain ⟨bc4, bc5⟩ := box_cells0 rB
  have hs0 := hS.range List.not_mem_nil hs
  have s4 := hs0 4 _ rfl
  clear hs
  have hu0 := hS.range List.not_mem_nil hu
  have u5 := hu0 5 _ rfl
  clear hu
  clear hS
  have hS := own_start ww
  go_wp2_with (first | (refine own_unguard (by rfl) ?_) | (go_at_call 28; fail) | (refine w_ld rfl _ rfl (by rfl) (by first | exact rd_1 (by repeat constructor) (by first | rfl | assumption) | exact rd_w (by repeat constructor) (by rfl) | exact rd_o (by assumption) (by rfl) (by first | exact nmn | assumption | simp) | exact rd_h (by assumption) (by rfl) (by first | exact nmn | assumption | simp) | exact rd_1o (by assumption) (by first | exact nmn | assumption | simp) | exact rd_1h (by assumption) (by first | rfl | assumption) (by first | exact nmn | assumption | simp)) hS ?_) | (refine own_box rfl _ _ rfl (by rfl) hS ?_; clear hS; (try clear ww); intro bb ww hS) | (refine w_al rfl rfl hS ?_; clear hS; (try clear ww); intro bb ww hS) | (refine w_st rfl _ _ rfl (by rfl) (by rfl) (by repeat constructor) (by rfl) (by rfl) (by first | rfl | assumption) hS ?_; clear hS; (try clear ww); intro ww hS) | (refine w_s1 rfl _ _ rfl (by rfl) (by repeat constructor) (by first | exact .c | exact .t rfl) (by rfl) (by repeat constructor) hS ?_; clear hS; (try clear ww); intro ww hS))
  go_at_call 28
  refine Calls.mono (HI.out _ _ (bthen HB0.out hS.below) (hS.range List.not_mem_nil rB)) ?_
  rintro e w1 ⟨v, rfl, ⟨k, o, gcs, rfl, hkP, hk, hg⟩, hb1⟩
  clear hkP hk hg
  have hS1 := hS.step hb1
  clear hS hb1
  (try clear ww)
  have hS := hS1
  clear hS1
  go_wp2_with (first | (refine own_unguard (by rfl) ?_) | (go_at_call 70; refine own_calls hS (HX.out _ _ (hS.cell List.not_mem_nil cP)) ?_; clear hS; (try clear ww); intro ww hS) | (go_at_call 70; refine own_calls hS (HS2.out _ _ (hS.cell List.not_mem_nil cP)) ?_; clear hS; (try clear ww); intro ww hS) | (go_at_call 70; refine own_calls hS (Hr.out _ _ (hS.cell List.not_mem_nil cP)) ?_; clear hS; (try clear ww); intro ww hS) | (go_at_call 64; refine own_calls hS (HM.out _) ?_; clear hS; (try clear ww); intro ww hS) | (refine w_ld rfl _ rfl (by rfl) (by first | exact rd_1 (by repeat constructor) (by first | rfl | assumption) | exact rd_w (by repeat constructor) (by rfl) | exact rd_o (by assumption) (by rfl) (by first | exact nmn | assumption | simp) | exact rd_h (by assumption) (by rfl) (by first | exact nmn | assumption | simp) | exact rd_1o (by assumption) (by first | exact nmn | assumption | simp) | exact rd_1h (by assumption) (by first | rfl | assumption) (by first | exact nmn | assumption | simp)) hS ?_) | (refine own_box rfl _ _ rfl (by rfl) hS ?_; clear hS; (try clear ww); intro bb ww hS) | (refine w_al rfl rfl hS ?_; clear hS; (try clear ww); intro bb ww hS) | (refine w_st rfl _ _ rfl (by rfl) (by rfl) (by repeat constructor) (by rfl) (by rfl) (by first | rfl | assumption) hS ?_; clear hS; (try clear ww); intro ww hS) | (refine w_s1 rfl _ _ rfl (by rfl) (by repeat constructor) (by first | exact .c | exact .t rfl) (by rfl) (by repeat constructor) hS ?_; clear hS; (try clear ww); intro ww hS))
  refine wp_loop_rounds 2 ?_
  rw [rounds_succ]
  go_upto_region 12 with (first | (refine own_unguard (by rfl) ?_) | (go_at_call 70; refine own_calls hS (HX.out _ _ (hS.cell List.not_mem_nil cP)) ?_; clear hS; (try clear ww); intro ww hS) | (go_at_call 70; refine own_calls hS (HS2.out _ _ (hS.cell List.not_mem_nil cP)) ?_; clear hS; (try clear ww); intro ww hS) | (go_at_call 70; refine own_calls hS (Hr.out _ _ (hS.cell List.not_mem_nil cP)) ?_; clear hS; (try clear ww); intro ww hS) | (go_at_call 64; refine own_calls hS (HM.out _) ?_; clear hS; (try clear ww); intro ww hS) | (refine w_ld rfl _ rfl (by rfl) (by first | exact rd_1 (by repeat constructor) (by first | rfl | assumption) | exact rd_w (by repeat constructor) (by rfl) | exact rd_o (by assumption) (by rfl) (by first | exact nmn | assumption | simp) | exact rd_h (by assumption) (by rfl) (by first | exact nmn | assumption | simp) | exact rd_1o (by assumption) (by first | exact nmn | assumption | simp) | exact rd_1h (by assumption) (by first | rfl | assumption) (by first | exact nmn | assumption | simp)) hS ?_) | (refine own_box rfl _ _ rfl (by rfl) hS ?_; clear hS; (try clear ww); intro bb ww hS) | (refine w_al rfl rfl hS ?_; clear hS; (try clear ww); intro bb ww hS) | (refine w_st rfl _ _ rfl (by rfl) (by rfl) (by repeat constructor) (by rfl) (by rfl) (by first | rfl | assumption) hS ?_; clear hS; (try clear ww); intro ww hS) | (refine w_s1 rfl _ _ rfl (by rfl) (by repeat constructor) (by first | exact .c | exact .t rfl) (by rfl) (by repeat constructor) hS ?_; clear hS; (try clear ww); intro ww hS))
  (try simp only [Act.put]); (try simp only [List.setIfInBounds_toArray]); (try simp only [List.set_cons_succ]); (try simp only [List.set_cons_zero])
  refine own_region hS (by kernel_rfl) (by kernel_rfl) ?_
  (try simp only [List.append])
  (try simp only); (try simp only [List.drop_succ_cons]); (try simp only [List.drop_zero]); (try simp only [List.take_succ_cons]); (try simp only [List.take_zero])
  repeat (first
      | (first | (refine quiet_plain rfl ?_) | (refine quiet_yes rfl rfl rfl (by simp only [List.getElem?_toArray, List.getElem?_cons_succ, List.getElem?_cons_zero]; rfl) (by with_reducible constructor) ?_)
         apply Exists.intro; refine ⟨?_, ?_⟩
         focus (intro wq hq0; have hq : Own _ _ _ wq := hq0; first | (exact quietAt_rd rfl (by rfl) (by first | exact rd_1 (by repeat constructor) (by first | rfl | assumption) | exact rd_w (by repeat constructor) (by rfl) | exact rd_o (by assumption) (by rfl) (by first | exact nmn | assumption | simp) | exact rd_h (by assumption) (by rfl) (by first | exact nmn | assumption | simp) | exact rd_1o (by assumption) (by first | exact nmn | assumption | simp) | exact rd_1h (by assumption) (by first | rfl | assumption) (by first | exact nmn | assumption | simp)) hq) | (go_simp; first | (go_at_call 70; exact quietG hq (HR.out _ _ (hq.cell List.not_mem_nil cP))) | (go_at_call 72; exact quietG hq (HRs.out _)) | (go_at_call 64; exact quietG hq (HN.out _)) | (with_reducible rfl)))
         simp only [Act.put, List.setIfInBounds_toArray, List.set_cons_zero, List.set_cons_succ])
      | (refine quiet_no rfl rfl rfl (by simp only [List.getElem?_toArray, List.getElem?_cons_succ, List.getElem?_cons_zero]; rfl) (by with_reducible constructor) ?_; simp only [Act.put, List.setIfInBounds_toArray, List.set_cons_zero, List.set_cons_succ]))
  refine wpQuiet_nil ?_
  clear hS
  intro ww hS
  go_wp2_with (first | (refine own_unguard (by rfl) ?_) | (go_at_call 70; refine own_calls hS (HX.out _ _ (hS.cell List.not_mem_nil cP)) ?_; clear hS; (try clear ww); intro ww hS) | (go_at_call 70; refine own_calls hS (HS2.out _ _ (hS.cell List.not_mem_nil cP)) ?_; clear hS; (try clear ww); intro ww hS) | (go_at_call 70; refine own_calls hS (Hr.out _ _ (hS.cell List.not_mem_nil cP)) ?_; clear hS; (try clear ww); intro ww hS) | (go_at_call 64; refine own_calls hS (HM.out _) ?_; clear hS; (try clear ww); intro ww hS) | (refine w_ld rfl _ rfl (by rfl) (by first | exact rd_1 (by repeat constructor) (by first | rfl | assumption) | exact rd_w (by repeat constructor) (by rfl) | exact rd_o (by assumption) (by rfl) (by first | exact nmn | assumption | simp) | exact rd_h (by assumption) (by rfl) (by first | exact nmn | assumption | simp) | exact rd_1o (by assumption) (by first | exact nmn | assumption | simp) | exact rd_1h (by assumption) (by first | rfl | assumption) (by first | exact nmn | assumption | simp)) hS ?_) | (refine own_box rfl _ _ rfl (by rfl) hS ?_; clear hS; (try clear ww); intro bb ww hS) | (refine w_al rfl rfl hS ?_; clear hS; (try clear ww); intro bb ww hS) | (refine w_st rfl _ _ rfl (by rfl) (by rfl) (by repeat constructor) (by rfl) (by rfl) (by first | rfl | assumption) hS ?_; clear hS; (try clear ww); intro ww hS) | (refine w_s1 rfl _ _ rfl (by rfl) (by repeat constructor) (by first | exact .c | exact .t rfl) (by rfl) (by repeat constructor) hS ?_; clear hS; (try clear ww); intro ww hS))
  rw [rounds_succ]
  go_wp2_with (first | (refine own_unguard (by rfl) ?_) | (go_at_call 70; refine own_calls hS (HX.out _ _ (hS.cell List.not_mem_nil cP)) ?_; clear hS; (try clear ww); intro ww hS) | (go_at_call 70; refine own_calls hS (HS2.out _ _ (hS.cell List.not_mem_nil cP)) ?_; clear hS; (try clear ww); intro ww hS) | (go_at_call 70; refine own_calls hS (Hr.out _ _ (hS.cell List.not_mem_nil cP)) ?_; clear hS; (try clear ww); intro ww hS) | (go_at_call 64; refine own_calls hS (HM.out _) ?_; clear hS; (try clear ww); intro ww hS) | (refine w_ld rfl _ rfl (by rfl) (by first | exact rd_1 (by repeat constructor) (by first | rfl | assumption) | exact rd_w (by repeat constructor) (by rfl) | exact rd_o (by assumption) (by rfl) (by first | exact nmn | assumption | simp) | exact rd_h (by assumption) (by rfl) (by first | exact nmn | assumption | simp) | exact rd_1o (by assumption) (by first | exact nmn | assumption | simp) | exact rd_1h (by assumption) (by first | rfl | assumption) (by first | exact nmn | assumption | simp)) hS ?_) | (refine own_box rfl _ _ rfl (by rfl) hS ?_; clear hS; (try clear ww); intro bb ww hS) | (refine w_al rfl rfl hS ?_; clear hS; (try clear ww); intro bb ww hS) | (refine w_st rfl _ _ rfl (by rfl) (by rfl) (by repeat constructor) (by rfl) (by rfl) (by first | rfl | assumption) hS ?_; clear hS; (try clear ww); intro ww hS) | (refine w_s1 rfl _ _ rfl (by rfl) (by repeat constructor) (by first | exact .c | exact .t rfl) (by rfl) (by repeat constructor) hS ?_; clear hS; (try clear ww); intro ww hS))
  refine bodyPost_ret (v := .tuple #[.int .i64 U, .int .i64 (V + (4 * r - ((U - ud) - (sh - V))))]) (by simp [results, Try.results46, go_sem]) rfl ⟨rfl, bthen HB0.out hS.below⟩

set_option maxHeartbeats 16000000 in
set_option maxRecDepth 100000 in
theorem shifts_s112 (F : Fnt) (l p : Int) (c : Bool) (n : Nat) (h d : Int) (b : Bx (n + 1)) (c0 c1 c2 c3 c6 c7 c8 c9 c10 : Value) (w : World) (sk so : Nat) (s0 s1 s2 s3 s5 s6 s7 s8 s9 s10 : Value) (sh : Int) (uk uo : Nat) (u0 u1 u2 u3 u4 u6 u7 u8 u9 u10 : Value) (ud : Int) (sc uc : Nat) (X M R N S2 r : Int) (U : Int) (V : Int) (hr : Rep w (n + 1) b [c0, c1, c2, c3, .int .i64 h, .int .i64 d, c6, c7, c8, c9, c10]) (_bh : -1073741824 ≤ h ∧ h ≤ 1073741824) (_bd : -1073741824 ≤ d ∧ d ≤ 1073741824) (m : Nat) (g : Bx (m + 1)) (hi : innerS (n + 1) b = some ⟨m, g⟩) (hl : 0 ≤ l ∧ l ≤ 3) (hs : w.rangeAt sk so [s0, s1, s2, s3, .int .i64 sh, s5, s6, s7, s8, s9, s10]) (bs : -1073741824 ≤ sh ∧ sh ≤ 1073741824) (hu : w.rangeAt uk uo [u0, u1, u2, u3, u4, .int .i64 ud, u6, u7, u8, u9, u10]) (ha : ([u0, u1, u2, u3, u4, .int .i64 ud, u6, u7, u8, u9, u10] : List Value).all (·.oneCell') = true) (bu : -1073741824 ≤ ud ∧ ud ≤ 1073741824) (eX : X = scl F.xheight p) (eM : M = scl X 80) (eR : R = scl (raiseP F l c) p) (eN : N = scl X 25) (eS2 : S2 = scl F.sub2 p) (er : r = scl F.rule p) (eU : U = max (max 0 R) (ud + N)) (eV : V = max 0 S2) (hg : ((U - ud) - (sh - V)) < 4 * r) (hm : 0 < M - (U - ud)) (_bX : 0 ≤ X ∧ X ≤ 20000) (bM : 0 ≤ M ∧ M ≤ 20000) (_bR : 0 ≤ R ∧ R ≤ 20000) (bN : 0 ≤ N ∧ N ≤ 20000) (bS2 : 0 ≤ S2 ∧ S2 ≤ 20000) (br : 0 ≤ r ∧ r ≤ 20000) :
    Calls Try.prog 46 #[F.val, .agg #[.int .i64 l, .bool c], .int .i64 p, .agg #[c0, c1, c2, c3, .int .i64 h, .int .i64 d, c6, c7, c8, c9, c10], .slice (some ⟨sk, so, none⟩) 1 sc, .slice (some ⟨uk, uo, none⟩) 1 uc] w (Gives (.tuple #[.int .i64 (U + (M - (U - ud))), .int .i64 ((V + (4 * r - ((U - ud) - (sh - V)))) - (M - (U - ud)))]) w) := by
  have HI := Lib.hid (fun w' k (h : Below w.heap.size w w') (hk : w'.rangeAt k 0 [c0, c1, c2, c3, .int .i64 _, .int .i64 _, c6, c7, c8, c9, c10]) => innermost_calls (fun k => k < w.heap.size) (n + 1) b _ k 0 w' hk (RepG.step h (n + 1) b _ (rep_old (n + 1) b _ hr)))
  rw [hi] at HI
  have HX := Lib.hid (fun (w' : World) (b : Nat) (hc : w'.cell? ⟨b, 0, none⟩ = some (.int .i64 p)) => show Calls Try.prog 70 #[.int .i64 F.xheight, .pointer (some ⟨b, 0, none⟩)] w' (Gives (.int .i64 X) w') by rw [eX]; exact shifts1_calls _ _ _ _ hc)
  have HM := Lib.hid (fun (w' : World) => show Calls Try.prog 64 #[.int .i64 X, .int .i64 80] w' (Gives (.int .i64 M) w') by rw [eM]; exact length_Scale_gives _ _ _)
  have HN := Lib.hid (fun (w' : World) => show Calls Try.prog 64 #[.int .i64 X, .int .i64 25] w' (Gives (.int .i64 N) w') by rw [eN]; exact length_Scale_gives _ _ _)
  have HR := Lib.hid (fun (w' : World) (b : Nat) (hc : w'.cell? ⟨b, 0, none⟩ = some (.int .i64 p)) => show Calls Try.prog 70 #[.int .i64 (raiseP F l c), .pointer (some ⟨b, 0, none⟩)] w' (Gives (.int .i64 R) w') by rw [eR]; exact shifts1_calls _ _ _ _ hc)
  have HRs := Lib.hid (fun (w' : World) => raise_calls F l c w' (by omega))
  have HS2 := Lib.hid (fun (w' : World) (b : Nat) (hc : w'.cell? ⟨b, 0, none⟩ = some (.int .i64 p)) => show Calls Try.prog 70 #[.int .i64 F.sub2, .pointer (some ⟨b, 0, none⟩)] w' (Gives (.int .i64 S2) w') by rw [eS2]; exact shifts1_calls _ _ _ _ hc)
  have Hr := Lib.hid (fun (w' : World) (b : Nat) (hc : w'.cell? ⟨b, 0, none⟩ = some (.int .i64 p)) => show Calls Try.prog 70 #[.int .i64 F.rule, .pointer (some ⟨b, 0, none⟩)] w' (Gives (.int .i64 r) w') by rw [er]; exact shifts1_calls _ _ _ _ hc)
  have hmu := fun (w : World) (ts : Array TypeId) (t : TypeId) => eU ▸ run_max3 (P := Try.prog) 0 R (ud + N) w ts t
  have hmv := fun (w : World) (ts : Array TypeId) (t : TypeId) => eV ▸ run_max2 (P := Try.prog) 0 S2 w ts t
  have bU : -3000000000 ≤ U ∧ U ≤ 3000000000 := by omega
  have bV : -3000000000 ≤ V ∧ V ≤ 3000000000 := by omega
  have i0 : IntKind.i64.wrap (ud + N) = ud + N := IntWalk.i64_in _ (by omega)
  have i1 : IntKind.i64.wrap (U - ud) = U - ud := IntWalk.i64_in _ (by omega)
  have i2 : IntKind.i64.wrap (sh - V) = sh - V := IntWalk.i64_in _ (by omega)
  have i3 : IntKind.i64.wrap ((U - ud) - (sh - V)) = (U - ud) - (sh - V) := IntWalk.i64_in _ (by omega)
  have i4 : IntKind.i64.wrap (4 * r) = 4 * r := IntWalk.i64_in _ (by omega)
  have i5 : IntKind.i64.wrap (4 * r - ((U - ud) - (sh - V))) = 4 * r - ((U - ud) - (sh - V)) := IntWalk.i64_in _ (by omega)
  have i6 : IntKind.i64.wrap (V + (4 * r - ((U - ud) - (sh - V)))) = V + (4 * r - ((U - ud) - (sh - V))) := IntWalk.i64_in _ (by omega)
  have i7 : IntKind.i64.wrap (M - (U - ud)) = M - (U - ud) := IntWalk.i64_in _ (by omega)
  have i8 : IntKind.i64.wrap (U + (M - (U - ud))) = U + (M - (U - ud)) := IntWalk.i64_in _ (by omega)
  have i9 : IntKind.i64.wrap ((V + (4 * r - ((U - ud) - (sh - V)))) - (M - (U - ud))) = (V + (4 * r - ((U - ud) - (sh - V)))) - (M - (U - ud)) := IntWalk.i64_in _ (by omega)
  have t1 : decide ((U - ud) - (sh - V) < 4 * r) = true := decide_eq_true hg
  have t2 : decide (0 < M - (U - ud)) = true := decide_eq_true hm
  have t3 : decide (U - ud < M) = true := decide_eq_true (by omega)
  have HH := Lib.hid hr
  clear hr hi _bh _bd hl eX eM eR eN eS2 er _bX bM _bR bN bS2 br eU bU bu eV bV bs hg hm
  go_enter Try.func46, Try.ntmps46
  have hS := own_start w
  go_upto_region 1 with (first | (refine own_unguard (by rfl) ?_) | (refine own_box1 (v := .int .i64 p) rfl _ _ rfl rfl rfl hS ?_; clear hS; (try clear ww); intro bb ww hS) | (refine w_ld rfl _ rfl (by rfl) (by first | exact rd_1 (by repeat constructor) (by first | rfl | assumption) | exact rd_w (by repeat constructor) (by rfl) | exact rd_o (by assumption) (by rfl) (by first | exact nmn | assumption | simp) | exact rd_h (by assumption) (by rfl) (by first | exact nmn | assumption | simp) | exact rd_1o (by assumption) (by first | exact nmn | assumption | simp) | exact rd_1h (by assumption) (by first | rfl | assumption) (by first | exact nmn | assumption | simp)) hS ?_) | (refine own_box rfl _ _ rfl (by rfl) hS ?_; clear hS; (try clear ww); intro bb ww hS) | (refine w_al rfl rfl hS ?_; clear hS; (try clear ww); intro bb ww hS) | (refine w_st rfl _ _ rfl (by rfl) (by rfl) (by repeat constructor) (by rfl) (by rfl) (by first | rfl | assumption) hS ?_; clear hS; (try clear ww); intro ww hS) | (refine w_s1 rfl _ _ rfl (by rfl) (by repeat constructor) (by first | exact .c | exact .t rfl) (by rfl) (by repeat constructor) hS ?_; clear hS; (try clear ww); intro ww hS))
  have rF := (hS.get at3).range
  have rS := (hS.get at2).range
  have cP := (hS.get at1).cell 0
  simp only [List.getElem?_cons_zero] at cP
  have rB := (hS.get at0).range
  have HB0 := Lib.hid hS.below
  obtain ⟨rP, p3, p5, p13, p14, p15, p16⟩ := fnt_cells rF
  obtain ⟨bc4, bc5⟩ := box_cells0 rB
  have hs0 := hS.range List.not_mem_nil hs
  have s4 := hs0 4 _ rfl
  clear hs
  have hu0 := hS.range List.not_mem_nil hu
  have u5 := hu0 5 _ rfl
  clear hu
  clear hS
  have hS := own_start ww
  go_wp2_with (first | (refine own_unguard (by rfl) ?_) | (go_at_call 28; fail) | (refine w_ld rfl _ rfl (by rfl) (by first | exact rd_1 (by repeat constructor) (by first | rfl | assumption) | exact rd_w (by repeat constructor) (by rfl) | exact rd_o (by assumption) (by rfl) (by first | exact nmn | assumption | simp) | exact rd_h (by assumption) (by rfl) (by first | exact nmn | assumption | simp) | exact rd_1o (by assumption) (by first | exact nmn | assumption | simp) | exact rd_1h (by assumption) (by first | rfl | assumption) (by first | exact nmn | assumption | simp)) hS ?_) | (refine own_box rfl _ _ rfl (by rfl) hS ?_; clear hS; (try clear ww); intro bb ww hS) | (refine w_al rfl rfl hS ?_; clear hS; (try clear ww); intro bb ww hS) | (refine w_st rfl _ _ rfl (by rfl) (by rfl) (by repeat constructor) (by rfl) (by rfl) (by first | rfl | assumption) hS ?_; clear hS; (try clear ww); intro ww hS) | (refine w_s1 rfl _ _ rfl (by rfl) (by repeat constructor) (by first | exact .c | exact .t rfl) (by rfl) (by repeat constructor) hS ?_; clear hS; (try clear ww); intro ww hS))
  go_at_call 28
  refine Calls.mono (HI.out _ _ (bthen HB0.out hS.below) (hS.range List.not_mem_nil rB)) ?_
  rintro e w1 ⟨v, rfl, ⟨k, o, gcs, rfl, hkP, hk, hg⟩, hb1⟩
  clear hkP hk hg
  have hS1 := hS.step hb1
  clear hS hb1
  (try clear ww)
  have hS := hS1
  clear hS1
  go_wp2_with (first | (refine own_unguard (by rfl) ?_) | (go_at_call 70; refine own_calls hS (HX.out _ _ (hS.cell List.not_mem_nil cP)) ?_; clear hS; (try clear ww); intro ww hS) | (go_at_call 70; refine own_calls hS (HS2.out _ _ (hS.cell List.not_mem_nil cP)) ?_; clear hS; (try clear ww); intro ww hS) | (go_at_call 70; refine own_calls hS (Hr.out _ _ (hS.cell List.not_mem_nil cP)) ?_; clear hS; (try clear ww); intro ww hS) | (go_at_call 64; refine own_calls hS (HM.out _) ?_; clear hS; (try clear ww); intro ww hS) | (refine w_ld rfl _ rfl (by rfl) (by first | exact rd_1 (by repeat constructor) (by first | rfl | assumption) | exact rd_w (by repeat constructor) (by rfl) | exact rd_o (by assumption) (by rfl) (by first | exact nmn | assumption | simp) | exact rd_h (by assumption) (by rfl) (by first | exact nmn | assumption | simp) | exact rd_1o (by assumption) (by first | exact nmn | assumption | simp) | exact rd_1h (by assumption) (by first | rfl | assumption) (by first | exact nmn | assumption | simp)) hS ?_) | (refine own_box rfl _ _ rfl (by rfl) hS ?_; clear hS; (try clear ww); intro bb ww hS) | (refine w_al rfl rfl hS ?_; clear hS; (try clear ww); intro bb ww hS) | (refine w_st rfl _ _ rfl (by rfl) (by rfl) (by repeat constructor) (by rfl) (by rfl) (by first | rfl | assumption) hS ?_; clear hS; (try clear ww); intro ww hS) | (refine w_s1 rfl _ _ rfl (by rfl) (by repeat constructor) (by first | exact .c | exact .t rfl) (by rfl) (by repeat constructor) hS ?_; clear hS; (try clear ww); intro ww hS))
  refine wp_loop_rounds 2 ?_
  rw [rounds_succ]
  go_upto_region 12 with (first | (refine own_unguard (by rfl) ?_) | (go_at_call 70; refine own_calls hS (HX.out _ _ (hS.cell List.not_mem_nil cP)) ?_; clear hS; (try clear ww); intro ww hS) | (go_at_call 70; refine own_calls hS (HS2.out _ _ (hS.cell List.not_mem_nil cP)) ?_; clear hS; (try clear ww); intro ww hS) | (go_at_call 70; refine own_calls hS (Hr.out _ _ (hS.cell List.not_mem_nil cP)) ?_; clear hS; (try clear ww); intro ww hS) | (go_at_call 64; refine own_calls hS (HM.out _) ?_; clear hS; (try clear ww); intro ww hS) | (refine w_ld rfl _ rfl (by rfl) (by first | exact rd_1 (by repeat constructor) (by first | rfl | assumption) | exact rd_w (by repeat constructor) (by rfl) | exact rd_o (by assumption) (by rfl) (by first | exact nmn | assumption | simp) | exact rd_h (by assumption) (by rfl) (by first | exact nmn | assumption | simp) | exact rd_1o (by assumption) (by first | exact nmn | assumption | simp) | exact rd_1h (by assumption) (by first | rfl | assumption) (by first | exact nmn | assumption | simp)) hS ?_) | (refine own_box rfl _ _ rfl (by rfl) hS ?_; clear hS; (try clear ww); intro bb ww hS) | (refine w_al rfl rfl hS ?_; clear hS; (try clear ww); intro bb ww hS) | (refine w_st rfl _ _ rfl (by rfl) (by rfl) (by repeat constructor) (by rfl) (by rfl) (by first | rfl | assumption) hS ?_; clear hS; (try clear ww); intro ww hS) | (refine w_s1 rfl _ _ rfl (by rfl) (by repeat constructor) (by first | exact .c | exact .t rfl) (by rfl) (by repeat constructor) hS ?_; clear hS; (try clear ww); intro ww hS))
  (try simp only [Act.put]); (try simp only [List.setIfInBounds_toArray]); (try simp only [List.set_cons_succ]); (try simp only [List.set_cons_zero])
  refine own_region hS (by kernel_rfl) (by kernel_rfl) ?_
  (try simp only [List.append])
  (try simp only); (try simp only [List.drop_succ_cons]); (try simp only [List.drop_zero]); (try simp only [List.take_succ_cons]); (try simp only [List.take_zero])
  repeat (first
      | (first | (refine quiet_plain rfl ?_) | (refine quiet_yes rfl rfl rfl (by simp only [List.getElem?_toArray, List.getElem?_cons_succ, List.getElem?_cons_zero]; rfl) (by with_reducible constructor) ?_)
         apply Exists.intro; refine ⟨?_, ?_⟩
         focus (intro wq hq0; have hq : Own _ _ _ wq := hq0; first | (exact quietAt_rd rfl (by rfl) (by first | exact rd_1 (by repeat constructor) (by first | rfl | assumption) | exact rd_w (by repeat constructor) (by rfl) | exact rd_o (by assumption) (by rfl) (by first | exact nmn | assumption | simp) | exact rd_h (by assumption) (by rfl) (by first | exact nmn | assumption | simp) | exact rd_1o (by assumption) (by first | exact nmn | assumption | simp) | exact rd_1h (by assumption) (by first | rfl | assumption) (by first | exact nmn | assumption | simp)) hq) | (go_simp; first | (go_at_call 70; exact quietG hq (HR.out _ _ (hq.cell List.not_mem_nil cP))) | (go_at_call 72; exact quietG hq (HRs.out _)) | (go_at_call 64; exact quietG hq (HN.out _)) | (with_reducible rfl)))
         simp only [Act.put, List.setIfInBounds_toArray, List.set_cons_zero, List.set_cons_succ])
      | (refine quiet_no rfl rfl rfl (by simp only [List.getElem?_toArray, List.getElem?_cons_succ, List.getElem?_cons_zero]; rfl) (by with_reducible constructor) ?_; simp only [Act.put, List.setIfInBounds_toArray, List.set_cons_zero, List.set_cons_succ]))
  refine wpQuiet_nil ?_
  clear hS
  intro ww hS
  go_wp2_with (first | (refine own_unguard (by rfl) ?_) | (go_at_call 70; refine own_calls hS (HX.out _ _ (hS.cell List.not_mem_nil cP)) ?_; clear hS; (try clear ww); intro ww hS) | (go_at_call 70; refine own_calls hS (HS2.out _ _ (hS.cell List.not_mem_nil cP)) ?_; clear hS; (try clear ww); intro ww hS) | (go_at_call 70; refine own_calls hS (Hr.out _ _ (hS.cell List.not_mem_nil cP)) ?_; clear hS; (try clear ww); intro ww hS) | (go_at_call 64; refine own_calls hS (HM.out _) ?_; clear hS; (try clear ww); intro ww hS) | (refine w_ld rfl _ rfl (by rfl) (by first | exact rd_1 (by repeat constructor) (by first | rfl | assumption) | exact rd_w (by repeat constructor) (by rfl) | exact rd_o (by assumption) (by rfl) (by first | exact nmn | assumption | simp) | exact rd_h (by assumption) (by rfl) (by first | exact nmn | assumption | simp) | exact rd_1o (by assumption) (by first | exact nmn | assumption | simp) | exact rd_1h (by assumption) (by first | rfl | assumption) (by first | exact nmn | assumption | simp)) hS ?_) | (refine own_box rfl _ _ rfl (by rfl) hS ?_; clear hS; (try clear ww); intro bb ww hS) | (refine w_al rfl rfl hS ?_; clear hS; (try clear ww); intro bb ww hS) | (refine w_st rfl _ _ rfl (by rfl) (by rfl) (by repeat constructor) (by rfl) (by rfl) (by first | rfl | assumption) hS ?_; clear hS; (try clear ww); intro ww hS) | (refine w_s1 rfl _ _ rfl (by rfl) (by repeat constructor) (by first | exact .c | exact .t rfl) (by rfl) (by repeat constructor) hS ?_; clear hS; (try clear ww); intro ww hS))
  rw [rounds_succ]
  go_wp2_with (first | (refine own_unguard (by rfl) ?_) | (go_at_call 70; refine own_calls hS (HX.out _ _ (hS.cell List.not_mem_nil cP)) ?_; clear hS; (try clear ww); intro ww hS) | (go_at_call 70; refine own_calls hS (HS2.out _ _ (hS.cell List.not_mem_nil cP)) ?_; clear hS; (try clear ww); intro ww hS) | (go_at_call 70; refine own_calls hS (Hr.out _ _ (hS.cell List.not_mem_nil cP)) ?_; clear hS; (try clear ww); intro ww hS) | (go_at_call 64; refine own_calls hS (HM.out _) ?_; clear hS; (try clear ww); intro ww hS) | (refine w_ld rfl _ rfl (by rfl) (by first | exact rd_1 (by repeat constructor) (by first | rfl | assumption) | exact rd_w (by repeat constructor) (by rfl) | exact rd_o (by assumption) (by rfl) (by first | exact nmn | assumption | simp) | exact rd_h (by assumption) (by rfl) (by first | exact nmn | assumption | simp) | exact rd_1o (by assumption) (by first | exact nmn | assumption | simp) | exact rd_1h (by assumption) (by first | rfl | assumption) (by first | exact nmn | assumption | simp)) hS ?_) | (refine own_box rfl _ _ rfl (by rfl) hS ?_; clear hS; (try clear ww); intro bb ww hS) | (refine w_al rfl rfl hS ?_; clear hS; (try clear ww); intro bb ww hS) | (refine w_st rfl _ _ rfl (by rfl) (by rfl) (by repeat constructor) (by rfl) (by rfl) (by first | rfl | assumption) hS ?_; clear hS; (try clear ww); intro ww hS) | (refine w_s1 rfl _ _ rfl (by rfl) (by repeat constructor) (by first | exact .c | exact .t rfl) (by rfl) (by repeat constructor) hS ?_; clear hS; (try clear ww); intro ww hS))
  refine bodyPost_ret (v := .tuple #[.int .i64 (U + (M - (U - ud))), .int .i64 ((V + (4 * r - ((U - ud) - (sh - V)))) - (M - (U - ud)))]) (by simp [results, Try.results46, go_sem]) rfl ⟨rfl, bthen HB0.out hS.below⟩

end Go.Proofs.Ytgpabckipmhobaa
