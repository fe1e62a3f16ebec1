/- Limits: places. -/
import Derived.Test.YtdbcdjiclkmknaaK19
namespace Go.Proofs.Ytdbcdjiclkmknaa
open Go.RowKit

attribute [local irreducible] wpQuiet wpG wpP wpK wpList Code.wp Calls

set_option maxHeartbeats 16000000 in
set_option maxRecDepth 100000 in
theorem places_11 (h ow : Int) (bk bo bc sc uc : Nat) (b0 b1 b2 b4 b5 b6 b7 b8 b9 b10 : Value) (w : World) (hb : w.rangeAt bk bo [b0, b1, b2, .int .i64 ow, b4, b5, b6, b7, b8, b9, b10]) (ab : ([b0, b1, b2, .int .i64 ow, b4, b5, b6, b7, b8, b9, b10] : List Value).all (·.oneCell') = true) (iw : -1073741824 ≤ ow ∧ ow ≤ 1073741824) (ih : -536870912 ≤ h ∧ h ≤ 536870912) (sk so : Nat) (s0 s1 s2 s4 s5 s6 s7 s8 s9 s10 : Value) (sw : Int) (hs : w.rangeAt sk so [s0, s1, s2, .int .i64 sw, s4, s5, s6, s7, s8, s9, s10]) (as_ : ([s0, s1, s2, .int .i64 sw, s4, s5, s6, s7, s8, s9, s10] : List Value).all (·.oneCell') = true) (is_ : -1073741824 ≤ sw ∧ sw ≤ 1073741824) (uk uo : Nat) (u0 u1 u2 u4 u5 u6 u7 u8 u9 u10 : Value) (uw : Int) (hu : w.rangeAt uk uo [u0, u1, u2, .int .i64 uw, u4, u5, u6, u7, u8, u9, u10]) (au : ([u0, u1, u2, .int .i64 uw, u4, u5, u6, u7, u8, u9, u10] : List Value).all (·.oneCell') = true) (iu : -1073741824 ≤ uw ∧ uw ≤ 1073741824) (A0 A1 A2 p0 L0 p1 q1 L1 p2 q2 L2 y0 z0 C0 y1 z1 C1 y2 z2 C2 : Int) (eA0 : A0 = max 0 ow) (eA1 : A1 = max A0 sw) (eA2 : A2 = max A1 uw) (ep0 : p0 = hlf (A2 - ow)) (eL0 : L0 = min 0 p0) (ep1 : p1 = hlf (A2 - sw)) (eq1 : q1 = p1 - h) (eL1 : L1 = min L0 q1) (ep2 : p2 = hlf (A2 - uw)) (eq2 : q2 = p2 + h) (eL2 : L2 = min L1 q2) (ey0 : y0 = p0 - L2) (ez0 : z0 = y0 + ow) (eC0 : C0 = max A2 z0) (ey1 : y1 = q1 - L2) (ez1 : z1 = y1 + sw) (eC1 : C1 = max C0 z1) (ey2 : y2 = q2 - L2) (ez2 : z2 = y2 + uw) (eC2 : C2 = max C1 z2) :
    Calls Try.prog 22 #[.agg #[.slice (some ⟨bk, bo, none⟩) 1 bc, .slice (some ⟨sk, so, none⟩) 1 sc, .slice (some ⟨uk, uo, none⟩) 1 uc], .int .i64 h] w (Gives (.tuple #[.agg #[.int .i64 y0, .int .i64 y1, .int .i64 y2], .int .i64 C2]) w) := by
  have Hp0 := Lib.hid (fun (w' : World) => show Calls Try.prog 23 #[.int .i64 (A2 - ow)] w' (Gives (.int .i64 p0) w') by rw [ep0]; exact length_Half_gives _ _)
  have Hp1 := Lib.hid (fun (w' : World) => show Calls Try.prog 23 #[.int .i64 (A2 - sw)] w' (Gives (.int .i64 p1) w') by rw [ep1]; exact length_Half_gives _ _)
  have Hp2 := Lib.hid (fun (w' : World) => show Calls Try.prog 23 #[.int .i64 (A2 - uw)] w' (Gives (.int .i64 p2) w') by rw [ep2]; exact length_Half_gives _ _)
  have mA0 := fun (w : World) (ts : Array TypeId) (t : TypeId) => eA0 ▸ lm_max2 (P := Try.prog) 0 ow w ts t
  have mA1 := fun (w : World) (ts : Array TypeId) (t : TypeId) => eA1 ▸ lm_max2 (P := Try.prog) A0 sw w ts t
  have mA2 := fun (w : World) (ts : Array TypeId) (t : TypeId) => eA2 ▸ lm_max2 (P := Try.prog) A1 uw w ts t
  have mL0 := fun (w : World) (ts : Array TypeId) (t : TypeId) => eL0 ▸ lm_min2 (P := Try.prog) 0 p0 w ts t
  have mL1 := fun (w : World) (ts : Array TypeId) (t : TypeId) => eL1 ▸ lm_min2 (P := Try.prog) L0 q1 w ts t
  have mL2 := fun (w : World) (ts : Array TypeId) (t : TypeId) => eL2 ▸ lm_min2 (P := Try.prog) L1 q2 w ts t
  have mC0 := fun (w : World) (ts : Array TypeId) (t : TypeId) => eC0 ▸ lm_max2 (P := Try.prog) A2 z0 w ts t
  have mC1 := fun (w : World) (ts : Array TypeId) (t : TypeId) => eC1 ▸ lm_max2 (P := Try.prog) C0 z1 w ts t
  have mC2 := fun (w : World) (ts : Array TypeId) (t : TypeId) => eC2 ▸ lm_max2 (P := Try.prog) C1 z2 w ts t
  have bp0 : -536870912 ≤ p0 ∧ p0 ≤ 536870912 := by rw [ep0]; exact hlf_bd _
  have bp1 : -536870912 ≤ p1 ∧ p1 ≤ 536870912 := by rw [ep1]; exact hlf_bd _
  have bp2 : -536870912 ≤ p2 ∧ p2 ≤ 536870912 := by rw [ep2]; exact hlf_bd _
  have bA0 : 0 ≤ A0 ∧ A0 ≤ 1073741824 := by clear eA1 eA2 eL0 eL1 eL2 eC0 eC1 eC2; omega
  have bA1 : 0 ≤ A1 ∧ A1 ≤ 1073741824 := by clear eA0 eA2 eL0 eL1 eL2 eC0 eC1 eC2; omega
  have bA2 : 0 ≤ A2 ∧ A2 ≤ 1073741824 := by clear eA0 eA1 eL0 eL1 eL2 eC0 eC1 eC2; omega
  have bL0 : -1073741824 ≤ L0 ∧ L0 ≤ 0 := by clear eA0 eA1 eA2 eL1 eL2 eC0 eC1 eC2; omega
  have bL1 : -1073741824 ≤ L1 ∧ L1 ≤ 0 := by clear eA0 eA1 eA2 eL0 eL2 eC0 eC1 eC2; omega
  have bL2 : -1073741824 ≤ L2 ∧ L2 ≤ 0 := by clear eA0 eA1 eA2 eL0 eL1 eC0 eC1 eC2; omega
  clear eA0 eA1 eA2 eL0 eL1 eL2 eC0 eC1 eC2
  have i4149 : IntKind.i64.wrap (A2 - ow) = A2 - ow := IntWalk.i64_in _ (by omega)
  have i4232 : IntKind.i64.wrap (A2 - sw) = A2 - sw := IntWalk.i64_in _ (by omega)
  have iq1 : IntKind.i64.wrap (p1 - h) = q1 := by rw [eq1]; exact IntWalk.i64_in _ (by omega)
  have i4409 : IntKind.i64.wrap (A2 - uw) = A2 - uw := IntWalk.i64_in _ (by omega)
  have iq2 : IntKind.i64.wrap (p2 + h) = q2 := by rw [eq2]; exact IntWalk.i64_in _ (by omega)
  have iy0 : IntKind.i64.wrap (p0 - L2) = y0 := by rw [ey0]; exact IntWalk.i64_in _ (by omega)
  have iz0 : IntKind.i64.wrap (y0 + ow) = z0 := by rw [ez0]; exact IntWalk.i64_in _ (by omega)
  have iy1 : IntKind.i64.wrap (q1 - L2) = y1 := by rw [ey1]; exact IntWalk.i64_in _ (by omega)
  have iz1 : IntKind.i64.wrap (y1 + sw) = z1 := by rw [ez1]; exact IntWalk.i64_in _ (by omega)
  have iy2 : IntKind.i64.wrap (q2 - L2) = y2 := by rw [ey2]; exact IntWalk.i64_in _ (by omega)
  have iz2 : IntKind.i64.wrap (y2 + uw) = z2 := by rw [ez2]; exact IntWalk.i64_in _ (by omega)
  have a0 := arr3_0
  have a1 := arr3_1
  have a2 := arr3_2
  clear ep0 ep1 eq1 ep2 eq2 ey0 ez0 ey1 ez1 ey2 ez2 bp0 bp1 bp2 bA0 bA1 bA2 bL0 bL1 bL2 iw ih is_ iu
  go_enter Try.func22, Try.ntmps22
  have hS := own_start w
  go_wp2_with (first|(refine own_unguard (by rfl) ?_)|(refine w_ld rfl _ rfl (by rfl) (by first|exact rd_1 (by repeat constructor) (by first|rfl|assumption)|exact rd_w (by repeat constructor) (by rfl)|((first|refine rd_o ‹_› (by rfl) ?_|refine rd_h ‹_› (by rfl) ?_|refine rd_1o ‹_› ?_|refine rd_1h ‹_› (by first|rfl|assumption) ?_);first|exact nmn|assumption|simp)) hS ?_)|((first|refine own_box rfl _ _ rfl (by rfl) hS ?_|refine w_al rfl rfl hS ?_);clear hS;(try clear ww);intro bb ww hS)|((first|refine w_st rfl _ _ rfl (by rfl) (by rfl) (by repeat constructor) (by rfl) (by rfl) (by first|rfl|assumption) hS ?_|refine w_s1 rfl _ _ rfl (by rfl) (by repeat constructor) (by first|exact .c|exact .t rfl) (by rfl) (by repeat constructor) hS ?_);clear hS;(try clear ww);intro ww hS))
  refine wp_loop_rounds 4 ?_
  iterate 3
    rw [rounds_succ]
    go_wp2_with (first|(refine own_unguard (by rfl) ?_)|(refine w_ld rfl _ rfl (by rfl) (by first|exact rd_1 (by repeat constructor) (by first|rfl|assumption)|exact rd_w (by repeat constructor) (by rfl)|((first|refine rd_o ‹_› (by rfl) ?_|refine rd_h ‹_› (by rfl) ?_|refine rd_1o ‹_› ?_|refine rd_1h ‹_› (by first|rfl|assumption) ?_);first|exact nmn|assumption|simp)) hS ?_)|((first|refine own_box rfl _ _ rfl (by rfl) hS ?_|refine w_al rfl rfl hS ?_);clear hS;(try clear ww);intro bb ww hS)|((first|refine w_st rfl _ _ rfl (by rfl) (by rfl) (by repeat constructor) (by rfl) (by rfl) (by first|rfl|assumption) hS ?_|refine w_s1 rfl _ _ rfl (by rfl) (by repeat constructor) (by first|exact .c|exact .t rfl) (by rfl) (by repeat constructor) hS ?_);clear hS;(try clear ww);intro ww hS))
    refine wp_loop_rounds 4 ?_
    rw [rounds_succ]
    go_wp2_with (first|(refine own_unguard (by rfl) ?_)|(refine w_ld rfl _ rfl (by rfl) (by first|exact rd_1 (by repeat constructor) (by first|rfl|assumption)|exact rd_w (by repeat constructor) (by rfl)|((first|refine rd_o ‹_› (by rfl) ?_|refine rd_h ‹_› (by rfl) ?_|refine rd_1o ‹_› ?_|refine rd_1h ‹_› (by first|rfl|assumption) ?_);first|exact nmn|assumption|simp)) hS ?_)|((first|refine own_box rfl _ _ rfl (by rfl) hS ?_|refine w_al rfl rfl hS ?_);clear hS;(try clear ww);intro bb ww hS)|((first|refine w_st rfl _ _ rfl (by rfl) (by rfl) (by repeat constructor) (by rfl) (by rfl) (by first|rfl|assumption) hS ?_|refine w_s1 rfl _ _ rfl (by rfl) (by repeat constructor) (by first|exact .c|exact .t rfl) (by rfl) (by repeat constructor) hS ?_);clear hS;(try clear ww);intro ww hS))
    rw [rounds_succ]
    go_wp2_with (first|(refine own_unguard (by rfl) ?_)|(refine w_ld rfl _ rfl (by rfl) (by first|exact rd_1 (by repeat constructor) (by first|rfl|assumption)|exact rd_w (by repeat constructor) (by rfl)|((first|refine rd_o ‹_› (by rfl) ?_|refine rd_h ‹_› (by rfl) ?_|refine rd_1o ‹_› ?_|refine rd_1h ‹_› (by first|rfl|assumption) ?_);first|exact nmn|assumption|simp)) hS ?_)|((first|refine own_box rfl _ _ rfl (by rfl) hS ?_|refine w_al rfl rfl hS ?_);clear hS;(try clear ww);intro bb ww hS)|((first|refine w_st rfl _ _ rfl (by rfl) (by rfl) (by repeat constructor) (by rfl) (by rfl) (by first|rfl|assumption) hS ?_|refine w_s1 rfl _ _ rfl (by rfl) (by repeat constructor) (by first|exact .c|exact .t rfl) (by rfl) (by repeat constructor) hS ?_);clear hS;(try clear ww);intro ww hS))
  rw [rounds_succ]
  go_wp2_with (first|(refine own_unguard (by rfl) ?_)|(refine w_ld rfl _ rfl (by rfl) (by first|exact rd_1 (by repeat constructor) (by first|rfl|assumption)|exact rd_w (by repeat constructor) (by rfl)|((first|refine rd_o ‹_› (by rfl) ?_|refine rd_h ‹_› (by rfl) ?_|refine rd_1o ‹_› ?_|refine rd_1h ‹_› (by first|rfl|assumption) ?_);first|exact nmn|assumption|simp)) hS ?_)|((first|refine own_box rfl _ _ rfl (by rfl) hS ?_|refine w_al rfl rfl hS ?_);clear hS;(try clear ww);intro bb ww hS)|((first|refine w_st rfl _ _ rfl (by rfl) (by rfl) (by repeat constructor) (by rfl) (by rfl) (by first|rfl|assumption) hS ?_|refine w_s1 rfl _ _ rfl (by rfl) (by repeat constructor) (by first|exact .c|exact .t rfl) (by rfl) (by repeat constructor) hS ?_);clear hS;(try clear ww);intro ww hS))
  refine wp_loop_rounds 4 ?_
  iterate 3
    rw [rounds_succ]
    go_wp2_with (first|(refine own_unguard (by rfl) ?_)|(go_at_call 23;refine own_calls hS (by first|exact Hp0.out _|exact Hp1.out _|exact Hp2.out _) ?_;clear hS;(try clear ww);intro ww hS)|(refine w_ld rfl _ rfl (by rfl) (by first|exact rd_1 (by repeat constructor) (by first|rfl|assumption)|exact rd_w (by repeat constructor) (by rfl)|((first|refine rd_o ‹_› (by rfl) ?_|refine rd_h ‹_› (by rfl) ?_|refine rd_1o ‹_› ?_|refine rd_1h ‹_› (by first|rfl|assumption) ?_);first|exact nmn|assumption|simp)) hS ?_)|((first|refine own_box rfl _ _ rfl (by rfl) hS ?_|refine w_al rfl rfl hS ?_);clear hS;(try clear ww);intro bb ww hS)|((first|refine w_st rfl _ _ rfl (by rfl) (by rfl) (by repeat constructor) (by rfl) (by rfl) (by first|rfl|assumption) hS ?_|refine w_s1 rfl _ _ rfl (by rfl) (by repeat constructor) (by first|exact .c|exact .t rfl) (by rfl) (by repeat constructor) hS ?_);clear hS;(try clear ww);intro ww hS))
    refine wp_loop_rounds 4 ?_
    rw [rounds_succ]
    go_wp2_with (first|(refine own_unguard (by rfl) ?_)|(go_at_call 23;refine own_calls hS (by first|exact Hp0.out _|exact Hp1.out _|exact Hp2.out _) ?_;clear hS;(try clear ww);intro ww hS)|(refine w_ld rfl _ rfl (by rfl) (by first|exact rd_1 (by repeat constructor) (by first|rfl|assumption)|exact rd_w (by repeat constructor) (by rfl)|((first|refine rd_o ‹_› (by rfl) ?_|refine rd_h ‹_› (by rfl) ?_|refine rd_1o ‹_› ?_|refine rd_1h ‹_› (by first|rfl|assumption) ?_);first|exact nmn|assumption|simp)) hS ?_)|((first|refine own_box rfl _ _ rfl (by rfl) hS ?_|refine w_al rfl rfl hS ?_);clear hS;(try clear ww);intro bb ww hS)|((first|refine w_st rfl _ _ rfl (by rfl) (by rfl) (by repeat constructor) (by rfl) (by rfl) (by first|rfl|assumption) hS ?_|refine w_s1 rfl _ _ rfl (by rfl) (by repeat constructor) (by first|exact .c|exact .t rfl) (by rfl) (by repeat constructor) hS ?_);clear hS;(try clear ww);intro ww hS))
    rw [rounds_succ]
    go_wp2_with (first|(refine own_unguard (by rfl) ?_)|(refine w_ld rfl _ rfl (by rfl) (by first|exact rd_1 (by repeat constructor) (by first|rfl|assumption)|exact rd_w (by repeat constructor) (by rfl)|((first|refine rd_o ‹_› (by rfl) ?_|refine rd_h ‹_› (by rfl) ?_|refine rd_1o ‹_› ?_|refine rd_1h ‹_› (by first|rfl|assumption) ?_);first|exact nmn|assumption|simp)) hS ?_)|((first|refine own_box rfl _ _ rfl (by rfl) hS ?_|refine w_al rfl rfl hS ?_);clear hS;(try clear ww);intro bb ww hS)|((first|refine w_st rfl _ _ rfl (by rfl) (by rfl) (by repeat constructor) (by rfl) (by rfl) (by first|rfl|assumption) hS ?_|refine w_s1 rfl _ _ rfl (by rfl) (by repeat constructor) (by first|exact .c|exact .t rfl) (by rfl) (by repeat constructor) hS ?_);clear hS;(try clear ww);intro ww hS))
  rw [rounds_succ]
  go_wp2_with (first|(refine own_unguard (by rfl) ?_)|(refine w_ld rfl _ rfl (by rfl) (by first|exact rd_1 (by repeat constructor) (by first|rfl|assumption)|exact rd_w (by repeat constructor) (by rfl)|((first|refine rd_o ‹_› (by rfl) ?_|refine rd_h ‹_› (by rfl) ?_|refine rd_1o ‹_› ?_|refine rd_1h ‹_› (by first|rfl|assumption) ?_);first|exact nmn|assumption|simp)) hS ?_)|((first|refine own_box rfl _ _ rfl (by rfl) hS ?_|refine w_al rfl rfl hS ?_);clear hS;(try clear ww);intro bb ww hS)|((first|refine w_st rfl _ _ rfl (by rfl) (by rfl) (by repeat constructor) (by rfl) (by rfl) (by first|rfl|assumption) hS ?_|refine w_s1 rfl _ _ rfl (by rfl) (by repeat constructor) (by first|exact .c|exact .t rfl) (by rfl) (by repeat constructor) hS ?_);clear hS;(try clear ww);intro ww hS))
  refine wp_loop_rounds 4 ?_
  iterate 3
    rw [rounds_succ]
    go_wp2_with (first|(refine own_unguard (by rfl) ?_)|(refine w_ld rfl _ rfl (by rfl) (by first|exact rd_1 (by repeat constructor) (by first|rfl|assumption)|exact rd_w (by repeat constructor) (by rfl)|((first|refine rd_o ‹_› (by rfl) ?_|refine rd_h ‹_› (by rfl) ?_|refine rd_1o ‹_› ?_|refine rd_1h ‹_› (by first|rfl|assumption) ?_);first|exact nmn|assumption|simp)) hS ?_)|((first|refine own_box rfl _ _ rfl (by rfl) hS ?_|refine w_al rfl rfl hS ?_);clear hS;(try clear ww);intro bb ww hS)|((first|refine w_st rfl _ _ rfl (by rfl) (by rfl) (by repeat constructor) (by rfl) (by rfl) (by first|rfl|assumption) hS ?_|refine w_s1 rfl _ _ rfl (by rfl) (by repeat constructor) (by first|exact .c|exact .t rfl) (by rfl) (by repeat constructor) hS ?_);clear hS;(try clear ww);intro ww hS))
    refine wp_loop_rounds 4 ?_
    rw [rounds_succ]
    go_upto_region 33 with (first|(refine own_unguard (by rfl) ?_)|(refine w_ld rfl _ rfl (by rfl) (by first|exact rd_1 (by repeat constructor) (by first|rfl|assumption)|exact rd_w (by repeat constructor) (by rfl)|((first|refine rd_o ‹_› (by rfl) ?_|refine rd_h ‹_› (by rfl) ?_|refine rd_1o ‹_› ?_|refine rd_1h ‹_› (by first|rfl|assumption) ?_);first|exact nmn|assumption|simp)) hS ?_)|((first|refine own_box rfl _ _ rfl (by rfl) hS ?_|refine w_al rfl rfl hS ?_);clear hS;(try clear ww);intro bb ww hS)|((first|refine w_st rfl _ _ rfl (by rfl) (by rfl) (by repeat constructor) (by rfl) (by rfl) (by first|rfl|assumption) hS ?_|refine w_s1 rfl _ _ rfl (by rfl) (by repeat constructor) (by first|exact .c|exact .t rfl) (by rfl) (by repeat constructor) hS ?_);clear hS;(try clear ww);intro ww hS))
    (try simp only [Act.put]);(try simp only [List.setIfInBounds_toArray]);(try simp only [List.set_cons_succ]);(try simp only [List.set_cons_zero])
    refine own_region hS (by kernel_rfl) (by kernel_rfl) ?_
    (try simp only [List.append])
    (try simp only);(try simp only [List.drop_succ_cons]);(try simp only [List.drop_zero]);(try simp only [List.take_succ_cons]);(try simp only [List.take_zero])
    repeat (first
        | (first|(refine quiet_plain rfl ?_)|(refine quiet_yes rfl rfl rfl (by simp only [List.getElem?_toArray, List.getElem?_cons_succ, List.getElem?_cons_zero];rfl) (by with_reducible constructor) ?_)
           apply Exists.intro; refine ⟨?_, ?_⟩
           focus (intro wq hq0;have hq : Own _ _ _ wq := hq0;first|(exact quietAt_rd rfl (by rfl) (by first|exact rd_1 (by repeat constructor) (by first|rfl|assumption)|exact rd_w (by repeat constructor) (by rfl)|((first|refine rd_o ‹_› (by rfl) ?_|refine rd_h ‹_› (by rfl) ?_|refine rd_1o ‹_› ?_|refine rd_1h ‹_› (by first|rfl|assumption) ?_);first|exact nmn|assumption|simp)) hq)|(go_simp;first|(with_reducible rfl)))
           simp only [Act.put, List.setIfInBounds_toArray, List.set_cons_zero, List.set_cons_succ])
        | (refine quiet_no rfl rfl rfl (by simp only [List.getElem?_toArray, List.getElem?_cons_succ, List.getElem?_cons_zero];rfl) (by with_reducible constructor) ?_;simp only [Act.put, List.setIfInBounds_toArray, List.set_cons_zero, List.set_cons_succ]))
    refine wpQuiet_nil ?_
    clear hS
    intro ww hS
    go_wp2_with (first|(refine own_unguard (by rfl) ?_)|(refine w_ld rfl _ rfl (by rfl) (by first|exact rd_1 (by repeat constructor) (by first|rfl|assumption)|exact rd_w (by repeat constructor) (by rfl)|((first|refine rd_o ‹_› (by rfl) ?_|refine rd_h ‹_› (by rfl) ?_|refine rd_1o ‹_› ?_|refine rd_1h ‹_› (by first|rfl|assumption) ?_);first|exact nmn|assumption|simp)) hS ?_)|((first|refine own_box rfl _ _ rfl (by rfl) hS ?_|refine w_al rfl rfl hS ?_);clear hS;(try clear ww);intro bb ww hS)|((first|refine w_st rfl _ _ rfl (by rfl) (by rfl) (by repeat constructor) (by rfl) (by rfl) (by first|rfl|assumption) hS ?_|refine w_s1 rfl _ _ rfl (by rfl) (by repeat constructor) (by first|exact .c|exact .t rfl) (by rfl) (by repeat constructor) hS ?_);clear hS;(try clear ww);intro ww hS))
    rw [rounds_succ]
    go_wp2_with (first|(refine own_unguard (by rfl) ?_)|(refine w_ld rfl _ rfl (by rfl) (by first|exact rd_1 (by repeat constructor) (by first|rfl|assumption)|exact rd_w (by repeat constructor) (by rfl)|((first|refine rd_o ‹_› (by rfl) ?_|refine rd_h ‹_› (by rfl) ?_|refine rd_1o ‹_› ?_|refine rd_1h ‹_› (by first|rfl|assumption) ?_);first|exact nmn|assumption|simp)) hS ?_)|((first|refine own_box rfl _ _ rfl (by rfl) hS ?_|refine w_al rfl rfl hS ?_);clear hS;(try clear ww);intro bb ww hS)|((first|refine w_st rfl _ _ rfl (by rfl) (by rfl) (by repeat constructor) (by rfl) (by rfl) (by first|rfl|assumption) hS ?_|refine w_s1 rfl _ _ rfl (by rfl) (by repeat constructor) (by first|exact .c|exact .t rfl) (by rfl) (by repeat constructor) hS ?_);clear hS;(try clear ww);intro ww hS))
  rw [rounds_succ]
  go_wp2_with (first|(refine own_unguard (by rfl) ?_)|(refine w_ld rfl _ rfl (by rfl) (by first|exact rd_1 (by repeat constructor) (by first|rfl|assumption)|exact rd_w (by repeat constructor) (by rfl)|((first|refine rd_o ‹_› (by rfl) ?_|refine rd_h ‹_› (by rfl) ?_|refine rd_1o ‹_› ?_|refine rd_1h ‹_› (by first|rfl|assumption) ?_);first|exact nmn|assumption|simp)) hS ?_)|((first|refine own_box rfl _ _ rfl (by rfl) hS ?_|refine w_al rfl rfl hS ?_);clear hS;(try clear ww);intro bb ww hS)|((first|refine w_st rfl _ _ rfl (by rfl) (by rfl) (by repeat constructor) (by rfl) (by rfl) (by first|rfl|assumption) hS ?_|refine w_s1 rfl _ _ rfl (by rfl) (by repeat constructor) (by first|exact .c|exact .t rfl) (by rfl) (by repeat constructor) hS ?_);clear hS;(try clear ww);intro ww hS))
  have hc := (hS.get (atl (by exact .next (.next (.next (.next (.next (.next (.next (.next (.next (.here)))))))))))).cell
  refine bodyPost_ret (v := .tuple #[.agg #[.int .i64 y0, .int .i64 y1, .int .i64 y2], .int .i64 C2]) (by simp [results, Try.results22, go_sem, hc]) rfl (own_gives hS)

end Go.Proofs.Ytdbcdjiclkmknaa
