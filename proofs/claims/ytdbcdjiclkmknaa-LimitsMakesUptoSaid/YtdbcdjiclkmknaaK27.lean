/- Limits: Make, 1 below, 0 above. -/
import Derived.Test.YtdbcdjiclkmknaaK19
import Derived.Test.YtdbcdjiclkmknaaK15
import Derived.Test.YtdbcdjiclkmknaaK08
namespace Go.Proofs.Ytdbcdjiclkmknaa
open Go.RowKit

attribute [local irreducible] wpQuiet wpG wpP wpK wpList Code.wp Calls

set_option maxHeartbeats 16000000 in
set_option maxRecDepth 100000 in
theorem limMake_m10 (P : Nat → Prop) (F : Fnt) (l IT X0 X1 X2 E Q B10 bw bh bd : Int) (c : Bool) (n m : Nat) (base : Bx (n + 1)) (c0 c1 c2 c6 c7 c8 c9 c10 : Value) (w : World) (sc uc : Nat) (sb : Bx (n + 1)) (sk so : Nat) (s0 s1 s2 s6 s7 s8 s9 s10 : Value) (sw sh sd Q17 t17 dn DD : Int) (ux : Option Addr) (hF : FntOk w F) (hl : lvlOk l = true) (hv : ValidF F) (hP : ∀ k, P k → k < w.heap.size) (hrP : RepP P w (n + 1) base [c0, c1, c2, .int .i64 bw, .int .i64 bh, .int .i64 bd, c6, c7, c8, c9, c10]) (hb : validB (n + 1) base) (eQ : Q = scl F.quad (sizeOf' F l)) (eB : B10 = scl Q 10) (iB : 0 ≤ B10 ∧ B10 ≤ 20000) (ib : (-1073741824 ≤ bh ∧ bh ≤ 1073741824) ∧ (-1073741824 ≤ bd ∧ bd ≤ 1073741824)) (iX : I64 X0 ∧ I64 X1 ∧ I64 X2) (iE : I64 E) (hs : w.rangeAt sk so [s0, s1, s2, .int .i64 sw, .int .i64 sh, .int .i64 sd, s6, s7, s8, s9, s10]) (hsP : RepP P w (n + 1) sb [s0, s1, s2, .int .i64 sw, .int .i64 sh, .int .i64 sd, s6, s7, s8, s9, s10]) (hsv : validB (n + 1) sb) (is_ : (-1073741824 ≤ sh ∧ sh ≤ 1073741824) ∧ (-1073741824 ≤ sd ∧ sd ≤ 1073741824)) (e17 : Q17 = scl Q 17) (i17 : 0 ≤ Q17 ∧ Q17 ≤ 20000) (et : t17 = bd + Q17) (en : dn = t17 + sh) (eD : DD = max bd (dn + sd + B10)) (hPl : ∀ (w' : World) (bo : Nat) (_hb : w'.rangeAt bo 0 [c0, c1, c2, .int .i64 bw, .int .i64 bh, .int .i64 bd, c6, c7, c8, c9, c10]) (_hs : w'.rangeAt sk so [s0, s1, s2, .int .i64 sw, .int .i64 sh, .int .i64 sd, s6, s7, s8, s9, s10]), Calls Try.prog 22 #[.agg #[.slice (some ⟨bo, 0, none⟩) 1 1, .slice (some ⟨sk, so, none⟩) 1 sc, .slice ux 0 uc], .int .i64 (hlf IT)] w' (Gives (.tuple #[.agg #[.int .i64 X0, .int .i64 X1, .int .i64 X2], .int .i64 E]) w')) (hIt : ∀ w', Below w.heap.size w w' → Calls Try.prog 24 #[F.val, .agg #[c0, c1, c2, .int .i64 bw, .int .i64 bh, .int .i64 bd, c6, c7, c8, c9, c10]] w' (Gives (.int .i64 IT) w')) :
    Calls Try.prog 10 #[F.val, .agg #[.int .i64 l, .bool c], .agg #[c0, c1, c2, .int .i64 bw, .int .i64 bh, .int .i64 bd, c6, c7, c8, c9, c10], .slice (some ⟨sk, so, none⟩) 1 sc, .slice ux 0 uc] w (fun e w' => (validB (n + 2) (listB (n + 1) E bh DD [atXY (n + 1) base X0 0, atXY (n + 1) sb X1 (-dn)]) → GivesBEP P (n + 2) (listB (n + 1) E bh DD [atXY (n + 1) base X0 0, atXY (n + 1) sb X1 (-dn)]) 0 w e w') ∧ (¬ validB (n + 2) (listB (n + 1) E bh DD [atXY (n + 1) base X0 0, atXY (n + 1) sb X1 (-dn)]) → GivesBE (m + 1) (zeroB m) 6 w e w')) := by
  have HPc := Lib.hid (fun w' (h : Below w.heap.size w w') => style_Percent_calls F l (sizeOf' F l) 0 c w' (hF.below h) ⟨fun _ => ⟨rfl, rfl⟩, fun h => by
    rcases h with h | h
    · rw [hl] at h; cases h
    · exact absurd hv h⟩)
  have HVb := Lib.hid (fun w' (h : Below w.heap.size w w') => box_Valid_calls (n + 1) base _ w' (hrP.rep.step h) hrP.rep.wide _ (iff_t hb))
  have HPl := Lib.hid hPl
  have HIt := Lib.hid hIt
  have HHf := Lib.hid (fun (w' : World) => length_Half_gives IT w')
  have HQ := Lib.hid (fun (w' : World) => show Calls Try.prog 21 #[.int .i64 F.quad, .int .i64 (sizeOf' F l)] w' (Gives (.int .i64 Q) w') by rw [eQ]; exact length_Scale_gives _ _ _)
  have HB := Lib.hid (fun (w' : World) => show Calls Try.prog 21 #[.int .i64 Q, .int .i64 10] w' (Gives (.int .i64 B10) w') by rw [eB]; exact length_Scale_gives _ _ _)
  have hallb := rep_all hrP
  have HrP := Lib.hid hrP
  have HsB := Lib.hid (validB_small hb)
  have a0 := arr3_0
  have a1 := arr3_1
  have a2 := arr3_2
  have HVs := Lib.hid (fun w' (h : Below w.heap.size w w') => box_Valid_calls (n + 1) sb _ w' (hsP.rep.step h) hsP.rep.wide _ (iff_t hsv))
  have H17 := Lib.hid (fun (w' : World) => show Calls Try.prog 21 #[.int .i64 Q, .int .i64 17] w' (Gives (.int .i64 Q17) w') by rw [e17]; exact length_Scale_gives _ _ _)
  have HsP := Lib.hid hsP
  have Hs := Lib.hid hs
  have HsS := Lib.hid (validB_small hsv)
  have lsk := range_lt hs
  have halls := rep_all hsP
  have k1 : IntKind.i64.wrap (bd + Q17) = t17 := by rw [et]; exact IntWalk.i64_in _ (by omega)
  have k2 : IntKind.i64.wrap (t17 + sh) = dn := by rw [en]; exact IntWalk.i64_in _ (by omega)
  have k3 : IntKind.i64.wrap (-dn) = -dn := IntWalk.i64_in _ (by omega)
  have k4 : IntKind.i64.wrap (dn + sd) = dn + sd := IntWalk.i64_in _ (by omega)
  have k5 : IntKind.i64.wrap (dn + sd + B10) = dn + sd + B10 := IntWalk.i64_in _ (by omega)
  have mD := fun (w : World) (ts : Array TypeId) (t : TypeId) => eD ▸ lm_max2 (P := Try.prog) bd (dn + sd + B10) w ts t
  have jY : I64 (-dn) := by unfold I64; omega
  have iD : I64 DD := by unfold I64; omega
  have iH : I64 bh := by unfold I64; omega
  have HSm := Lib.hid (show ∀ k ∈ ([atXY (n + 1) base X0 0, atXY (n + 1) sb X1 (-dn)] : List (Bx (n + 1))), Small (n + 1) k ∧ bCount (n + 1) k ≤ 1000000 from fun k hk => by
    simp only [List.mem_cons, List.not_mem_nil, or_false] at hk
    rcases hk with rfl | rfl
    · exact ⟨small_at HsB.out.1, Nat.le_trans (Nat.le_of_eq count_at) (Nat.le_trans HsB.out.2 (by omega))⟩
    · exact ⟨small_at HsS.out.1, Nat.le_trans (Nat.le_of_eq count_at) (Nat.le_trans HsS.out.2 (by omega))⟩
    )
  clear hPl hIt hrP hb hl hv hF eQ eB iB ib hs hsP hsv is_ e17 i17 et en eD
  go_enter Try.func10, Try.ntmps10
  have hS := own_start w
  go_upto_region 1 with (first|(refine own_unguard (by rfl) ?_)|(refine w_ld rfl _ rfl (by rfl) (by first|exact rd_1 (by repeat constructor) (by first|rfl|assumption)|exact rd_w (by repeat constructor) (by rfl)|((first|refine rd_o ‹_› (by rfl) ?_|refine rd_h ‹_› (by rfl) ?_|refine rd_1o ‹_› ?_|refine rd_1h ‹_› (by first|rfl|assumption) ?_);first|exact nmn|assumption|simp)) hS ?_)|((first|refine own_box rfl _ _ rfl (by rfl) hS ?_|refine w_al rfl rfl hS ?_);clear hS;(try clear ww);intro bb ww hS)|((first|refine w_st rfl _ _ rfl (by rfl) (by rfl) (by repeat constructor) (by rfl) (by rfl) (by first|rfl|assumption) hS ?_|refine w_s1 rfl _ _ rfl (by rfl) (by repeat constructor) (by first|exact .c|exact .t rfl) (by rfl) (by repeat constructor) hS ?_);clear hS;(try clear ww);intro ww hS))
  have HC0 := Lib.hid hS
  rename World => wv
  obtain ⟨D0, hD0, hs0, hS1⟩ := safe_start (R := P) hS hP
  have HS0 := Lib.hid hs0
  have gs0 := rangeAt_below Hs.out hS.below
  have ns0 := hs0.old _ lsk
  clear hS hs0
  have hS := hS1
  clear hS1
  go_wp2_with (first|(refine own_unguard (by rfl) ?_)|(go_at_call 19;refine own_calls hS (by first|exact HPc.out _ (chainH HC0.out hD0 hS).below) ?_;clear hS;(try clear ww);intro ww hS)|(go_at_call 20;refine own_calls hS (by first|exact HVb.out _ (chainH HC0.out hD0 hS).below|exact HVs.out _ (chainH HC0.out hD0 hS).below) ?_;clear hS;(try clear ww);intro ww hS)|(go_at_call 21;refine own_calls hS (by first|exact HQ.out _|exact HB.out _) ?_;clear hS;(try clear ww);intro ww hS)|(refine own_buildSlice rfl _ _ 1 _ rfl [c0, c1, c2, .int .i64 bw, .int .i64 bh, .int .i64 bd, c6, c7, c8, c9, c10] hS Try.underlying30 (by kernel_rfl) ?_;clear hS;(try clear ww);intro bo ww hS)|(refine w_ld rfl _ rfl (by rfl) (by first|exact rd_1 (by repeat constructor) (by first|rfl|assumption)|exact rd_w (by repeat constructor) (by rfl)|((first|refine rd_o ‹_› (by rfl) ?_|refine rd_h ‹_› (by rfl) ?_|refine rd_1o ‹_› ?_|refine rd_1h ‹_› (by first|rfl|assumption) ?_);first|exact nmn|assumption|simp)) hS ?_)|((first|refine own_box rfl _ _ rfl (by rfl) hS ?_|refine w_al rfl rfl hS ?_);clear hS;(try clear ww);intro bb ww hS)|((first|refine w_st rfl _ _ rfl (by rfl) (by rfl) (by repeat constructor) (by rfl) (by rfl) (by first|rfl|assumption) hS ?_|refine w_s1 rfl _ _ rfl (by rfl) (by repeat constructor) (by first|exact .c|exact .t rfl) (by rfl) (by repeat constructor) hS ?_);clear hS;(try clear ww);intro ww hS))
  refine wp_loop_rounds 4 ?_
  iterate 2
    rw [rounds_succ]
    go_wp2_with (first|(refine own_unguard (by rfl) ?_)|(go_at_call 19;refine own_calls hS (by first|exact HPc.out _ (chainH HC0.out hD0 hS).below) ?_;clear hS;(try clear ww);intro ww hS)|(go_at_call 20;refine own_calls hS (by first|exact HVb.out _ (chainH HC0.out hD0 hS).below|exact HVs.out _ (chainH HC0.out hD0 hS).below) ?_;clear hS;(try clear ww);intro ww hS)|(go_at_call 21;refine own_calls hS (by first|exact HQ.out _|exact HB.out _) ?_;clear hS;(try clear ww);intro ww hS)|(refine own_buildSlice rfl _ _ 1 _ rfl [c0, c1, c2, .int .i64 bw, .int .i64 bh, .int .i64 bd, c6, c7, c8, c9, c10] hS Try.underlying30 (by kernel_rfl) ?_;clear hS;(try clear ww);intro bo ww hS)|(refine w_ld rfl _ rfl (by rfl) (by first|exact rd_1 (by repeat constructor) (by first|rfl|assumption)|exact rd_w (by repeat constructor) (by rfl)|((first|refine rd_o ‹_› (by rfl) ?_|refine rd_h ‹_› (by rfl) ?_|refine rd_1o ‹_› ?_|refine rd_1h ‹_› (by first|rfl|assumption) ?_);first|exact nmn|assumption|simp)) hS ?_)|((first|refine own_box rfl _ _ rfl (by rfl) hS ?_|refine w_al rfl rfl hS ?_);clear hS;(try clear ww);intro bb ww hS)|((first|refine w_st rfl _ _ rfl (by rfl) (by rfl) (by repeat constructor) (by rfl) (by rfl) (by first|rfl|assumption) hS ?_|refine w_s1 rfl _ _ rfl (by rfl) (by repeat constructor) (by first|exact .c|exact .t rfl) (by rfl) (by repeat constructor) hS ?_);clear hS;(try clear ww);intro ww hS))
    refine wp_loop_rounds 4 ?_
    rw [rounds_succ]
    go_wp2_with (first|(refine own_unguard (by rfl) ?_)|(go_at_call 19;refine own_calls hS (by first|exact HPc.out _ (chainH HC0.out hD0 hS).below) ?_;clear hS;(try clear ww);intro ww hS)|(go_at_call 20;refine own_calls hS (by first|exact HVb.out _ (chainH HC0.out hD0 hS).below|exact HVs.out _ (chainH HC0.out hD0 hS).below) ?_;clear hS;(try clear ww);intro ww hS)|(go_at_call 21;refine own_calls hS (by first|exact HQ.out _|exact HB.out _) ?_;clear hS;(try clear ww);intro ww hS)|(refine own_buildSlice rfl _ _ 1 _ rfl [c0, c1, c2, .int .i64 bw, .int .i64 bh, .int .i64 bd, c6, c7, c8, c9, c10] hS Try.underlying30 (by kernel_rfl) ?_;clear hS;(try clear ww);intro bo ww hS)|(refine w_ld rfl _ rfl (by rfl) (by first|exact rd_1 (by repeat constructor) (by first|rfl|assumption)|exact rd_w (by repeat constructor) (by rfl)|((first|refine rd_o ‹_› (by rfl) ?_|refine rd_h ‹_› (by rfl) ?_|refine rd_1o ‹_› ?_|refine rd_1h ‹_› (by first|rfl|assumption) ?_);first|exact nmn|assumption|simp)) hS ?_)|((first|refine own_box rfl _ _ rfl (by rfl) hS ?_|refine w_al rfl rfl hS ?_);clear hS;(try clear ww);intro bb ww hS)|((first|refine w_st rfl _ _ rfl (by rfl) (by rfl) (by repeat constructor) (by rfl) (by rfl) (by first|rfl|assumption) hS ?_|refine w_s1 rfl _ _ rfl (by rfl) (by repeat constructor) (by first|exact .c|exact .t rfl) (by rfl) (by repeat constructor) hS ?_);clear hS;(try clear ww);intro ww hS))
    rw [rounds_succ]
    go_wp2_with (first|(refine own_unguard (by rfl) ?_)|(refine w_ld rfl _ rfl (by rfl) (by first|exact rd_1 (by repeat constructor) (by first|rfl|assumption)|exact rd_w (by repeat constructor) (by rfl)|((first|refine rd_o ‹_› (by rfl) ?_|refine rd_h ‹_› (by rfl) ?_|refine rd_1o ‹_› ?_|refine rd_1h ‹_› (by first|rfl|assumption) ?_);first|exact nmn|assumption|simp)) hS ?_)|((first|refine own_box rfl _ _ rfl (by rfl) hS ?_|refine w_al rfl rfl hS ?_);clear hS;(try clear ww);intro bb ww hS)|((first|refine w_st rfl _ _ rfl (by rfl) (by rfl) (by repeat constructor) (by rfl) (by rfl) (by first|rfl|assumption) hS ?_|refine w_s1 rfl _ _ rfl (by rfl) (by repeat constructor) (by first|exact .c|exact .t rfl) (by rfl) (by repeat constructor) hS ?_);clear hS;(try clear ww);intro ww hS))
  rw [rounds_succ]
  go_wp2_with (first|(refine own_unguard (by rfl) ?_)|(go_at_call 19;refine own_calls hS (by first|exact HPc.out _ (chainH HC0.out hD0 hS).below) ?_;clear hS;(try clear ww);intro ww hS)|(go_at_call 20;refine own_calls hS (by first|exact HVb.out _ (chainH HC0.out hD0 hS).below|exact HVs.out _ (chainH HC0.out hD0 hS).below) ?_;clear hS;(try clear ww);intro ww hS)|(go_at_call 21;refine own_calls hS (by first|exact HQ.out _|exact HB.out _) ?_;clear hS;(try clear ww);intro ww hS)|(refine own_buildSlice rfl _ _ 1 _ rfl [c0, c1, c2, .int .i64 bw, .int .i64 bh, .int .i64 bd, c6, c7, c8, c9, c10] hS Try.underlying30 (by kernel_rfl) ?_;clear hS;(try clear ww);intro bo ww hS)|(refine w_ld rfl _ rfl (by rfl) (by first|exact rd_1 (by repeat constructor) (by first|rfl|assumption)|exact rd_w (by repeat constructor) (by rfl)|((first|refine rd_o ‹_› (by rfl) ?_|refine rd_h ‹_› (by rfl) ?_|refine rd_1o ‹_› ?_|refine rd_1h ‹_› (by first|rfl|assumption) ?_);first|exact nmn|assumption|simp)) hS ?_)|((first|refine own_box rfl _ _ rfl (by rfl) hS ?_|refine w_al rfl rfl hS ?_);clear hS;(try clear ww);intro bb ww hS)|((first|refine w_st rfl _ _ rfl (by rfl) (by rfl) (by repeat constructor) (by rfl) (by rfl) (by first|rfl|assumption) hS ?_|refine w_s1 rfl _ _ rfl (by rfl) (by repeat constructor) (by first|exact .c|exact .t rfl) (by rfl) (by repeat constructor) hS ?_);clear hS;(try clear ww);intro ww hS))
  refine wp_loop_rounds 1 ?_
  rw [rounds_succ]
  go_wp2_with (first|(refine own_unguard (by rfl) ?_)|(go_at_call 19;refine own_calls hS (by first|exact HPc.out _ (chainH HC0.out hD0 hS).below) ?_;clear hS;(try clear ww);intro ww hS)|(go_at_call 20;refine own_calls hS (by first|exact HVb.out _ (chainH HC0.out hD0 hS).below|exact HVs.out _ (chainH HC0.out hD0 hS).below) ?_;clear hS;(try clear ww);intro ww hS)|(go_at_call 21;refine own_calls hS (by first|exact HQ.out _|exact HB.out _) ?_;clear hS;(try clear ww);intro ww hS)|(refine own_buildSlice rfl _ _ 1 _ rfl [c0, c1, c2, .int .i64 bw, .int .i64 bh, .int .i64 bd, c6, c7, c8, c9, c10] hS Try.underlying30 (by kernel_rfl) ?_;clear hS;(try clear ww);intro bo ww hS)|(refine w_ld rfl _ rfl (by rfl) (by first|exact rd_1 (by repeat constructor) (by first|rfl|assumption)|exact rd_w (by repeat constructor) (by rfl)|((first|refine rd_o ‹_› (by rfl) ?_|refine rd_h ‹_› (by rfl) ?_|refine rd_1o ‹_› ?_|refine rd_1h ‹_› (by first|rfl|assumption) ?_);first|exact nmn|assumption|simp)) hS ?_)|((first|refine own_box rfl _ _ rfl (by rfl) hS ?_|refine w_al rfl rfl hS ?_);clear hS;(try clear ww);intro bb ww hS)|((first|refine w_st rfl _ _ rfl (by rfl) (by rfl) (by repeat constructor) (by rfl) (by rfl) (by first|rfl|assumption) hS ?_|refine w_s1 rfl _ _ rfl (by rfl) (by repeat constructor) (by first|exact .c|exact .t rfl) (by rfl) (by repeat constructor) hS ?_);clear hS;(try clear ww);intro ww hS))
  rw [rounds_succ]
  go_upto_region 17 with (first|(refine own_unguard (by rfl) ?_)|(go_at_call 19;refine own_calls hS (by first|exact HPc.out _ (chainH HC0.out hD0 hS).below) ?_;clear hS;(try clear ww);intro ww hS)|(go_at_call 20;refine own_calls hS (by first|exact HVb.out _ (chainH HC0.out hD0 hS).below|exact HVs.out _ (chainH HC0.out hD0 hS).below) ?_;clear hS;(try clear ww);intro ww hS)|(go_at_call 21;refine own_calls hS (by first|exact HQ.out _|exact HB.out _) ?_;clear hS;(try clear ww);intro ww hS)|(refine own_buildSlice rfl _ _ 1 _ rfl [c0, c1, c2, .int .i64 bw, .int .i64 bh, .int .i64 bd, c6, c7, c8, c9, c10] hS Try.underlying30 (by kernel_rfl) ?_;clear hS;(try clear ww);intro bo ww hS)|(refine w_ld rfl _ rfl (by rfl) (by first|exact rd_1 (by repeat constructor) (by first|rfl|assumption)|exact rd_w (by repeat constructor) (by rfl)|((first|refine rd_o ‹_› (by rfl) ?_|refine rd_h ‹_› (by rfl) ?_|refine rd_1o ‹_› ?_|refine rd_1h ‹_› (by first|rfl|assumption) ?_);first|exact nmn|assumption|simp)) hS ?_)|((first|refine own_box rfl _ _ rfl (by rfl) hS ?_|refine w_al rfl rfl hS ?_);clear hS;(try clear ww);intro bb ww hS)|((first|refine w_st rfl _ _ rfl (by rfl) (by rfl) (by repeat constructor) (by rfl) (by rfl) (by first|rfl|assumption) hS ?_|refine w_s1 rfl _ _ rfl (by rfl) (by repeat constructor) (by first|exact .c|exact .t rfl) (by rfl) (by repeat constructor) hS ?_);clear hS;(try clear ww);intro ww hS))
  (try simp only [Act.put]);(try simp only [List.setIfInBounds_toArray]);(try simp only [List.set_cons_succ]);(try simp only [List.set_cons_zero])
  refine own_any hS [10] 12 (by kernel_rfl) (by kernel_rfl) ?_
  clear hS
  intro hcl ww hS
  refine own_batch hS [0, 1, 2, 3, 4, 5, 6, 7] 4 rfl hcl (by kernel_rfl) ?_
  (try simp only);repeat (first|(simp only [List.filterMap_cons])|(simp only [List.filterMap_nil])|(simp only [List.getElem?_toArray])|(simp only [List.getElem?_cons_succ])|(simp only [List.getElem?_cons_zero])|(simp only [List.reverse_cons])|(simp only [List.reverse_nil])|(simp only [List.nil_append])|(simp only [List.cons_append]))
  repeat (first
      | (first|(refine g_plain rfl ?_)|(refine g_yes rfl rfl rfl (by simp only [List.getElem?_toArray, List.getElem?_cons_succ, List.getElem?_cons_zero];rfl) (by with_reducible constructor) ?_)
         apply Exists.intro; refine ⟨?_, ?_⟩
         focus (intro wq hq0;(first|have hq : Own _ _ _ wq := hq0|have hq : Own _ _ _ wq := hq0.1|skip);first|((with_reducible show givesAt _ ({ dst := _, op := Op.load _ _, type := _, pos := _, after := _, guard := _ } : Oper) _ _ _);first|(exact givesAt_rd rfl (by rfl) (by first|exact rd_1 (by repeat constructor) (by first|rfl|assumption)|exact rd_w (by repeat constructor) (by rfl)|((first|refine rd_o ‹_› (by rfl) ?_|refine rd_h ‹_› (by rfl) ?_|refine rd_1o ‹_› ?_|refine rd_1h ‹_› (by first|rfl|assumption) ?_);first|exact nmn|assumption|simp)) hq))|(go_simp;first|(go_at_call 24;exact HIt.out _ (chainH HC0.out hD0 hq).below)|(go_at_call 23;exact HHf.out _)|(go_at_call 22;exact HPl.out _ _ (hq.get (atl (by exact (.next (.next (.next .here)))))).range (hq.range ns0 gs0))|(with_reducible rfl)))
         simp only [Act.put, List.setIfInBounds_toArray];(try simp only [List.set_cons_succ]);(try simp only [List.set_cons_zero]))
      | (refine g_no rfl rfl rfl (by simp only [List.getElem?_toArray, List.getElem?_cons_succ, List.getElem?_cons_zero];rfl) (by with_reducible constructor) ?_;simp only [Act.put, List.setIfInBounds_toArray];(try simp only [List.set_cons_succ]);(try simp only [List.set_cons_zero])))
  refine g_nil ?_
  clear hS hcl
  intro hcl ww hS
  (try simp only [Act.put]);(try simp only [List.setIfInBounds_toArray]);(try simp only [List.set_cons_succ]);(try simp only [List.set_cons_zero])
  refine own_pure hS [8] 3 rfl hcl (by kernel_rfl) ?_
  (try simp only);repeat (first|(simp only [List.filterMap_cons])|(simp only [List.filterMap_nil])|(simp only [List.getElem?_toArray])|(simp only [List.getElem?_cons_succ])|(simp only [List.getElem?_cons_zero])|(simp only [List.reverse_cons])|(simp only [List.reverse_nil])|(simp only [List.nil_append])|(simp only [List.cons_append]))
  repeat (first
      | (first|(refine g_plain rfl ?_)|(refine g_yes rfl rfl rfl (by simp only [List.getElem?_toArray, List.getElem?_cons_succ, List.getElem?_cons_zero];rfl) (by with_reducible constructor) ?_)
         apply Exists.intro; refine ⟨?_, ?_⟩
         focus (intro wq hq0;(first|have hq : Own _ _ _ wq := hq0|have hq : Own _ _ _ wq := hq0.1|skip);first|((with_reducible show givesAt _ ({ dst := _, op := Op.load _ _, type := _, pos := _, after := _, guard := _ } : Oper) _ _ _);first|(exact givesAt_rd rfl (by rfl) (by first|exact rd_1 (by repeat constructor) (by first|rfl|assumption)|exact rd_w (by repeat constructor) (by rfl)|((first|refine rd_o ‹_› (by rfl) ?_|refine rd_h ‹_› (by rfl) ?_|refine rd_1o ‹_› ?_|refine rd_1h ‹_› (by first|rfl|assumption) ?_);first|exact nmn|assumption|simp)) hq))|(go_simp;first|(with_reducible rfl)))
         simp only [Act.put, List.setIfInBounds_toArray];(try simp only [List.set_cons_succ]);(try simp only [List.set_cons_zero]))
      | (refine g_no rfl rfl rfl (by simp only [List.getElem?_toArray, List.getElem?_cons_succ, List.getElem?_cons_zero];rfl) (by with_reducible constructor) ?_;simp only [Act.put, List.setIfInBounds_toArray];(try simp only [List.set_cons_succ]);(try simp only [List.set_cons_zero])))
  refine g_nil ?_
  clear hS hcl
  intro hcl ww hS
  (try simp only [Act.put]);(try simp only [List.setIfInBounds_toArray]);(try simp only [List.set_cons_succ]);(try simp only [List.set_cons_zero])
  refine own_frees hS [(9, 21, [.int .i64 0, .int .i64 0, .int .i64 0])] 2 rfl (.cons (by simp only [List.getElem?_toArray, List.getElem?_cons_succ, List.getElem?_cons_zero]; rfl) rfl rfl rfl zt_arr3i .nil) hcl (by kernel_rfl) ?_
  clear hS hcl
  intro f wf hcl hS
  simp only [putF, ownF, List.map_cons, List.map_nil, List.foldr_cons, List.foldr_nil, List.cons_append, List.nil_append] at hS hcl ⊢
  generalize f 9 = b21 at *
  (try simp only [Act.put]);(try simp only [List.setIfInBounds_toArray]);(try simp only [List.set_cons_succ]);(try simp only [List.set_cons_zero])
  refine own_hard (D := D0) (W := wv) 10 hcl (by simp only [List.getElem?_toArray, List.getElem?_cons_succ, List.getElem?_cons_zero]; rfl) (by kernel_rfl) (by kernel_rfl) ?_
  (refine w_st rfl _ _ rfl (by rfl) (by rfl) (by repeat constructor) (by rfl) (by rfl) (by first|rfl|assumption) hS ?_;clear hS;intro ww hS)
  refine wpList_nil ⟨rfl, _, hS, ?_⟩
  clear hS hcl
  intro hcl wg hS
  (try simp only [Act.put]);(try simp only [List.setIfInBounds_toArray]);(try simp only [List.set_cons_succ]);(try simp only [List.set_cons_zero])
  refine own_batch hS [11] 0 rfl hcl (by kernel_rfl) ?_
  (try simp only);repeat (first|(simp only [List.filterMap_cons])|(simp only [List.filterMap_nil])|(simp only [List.getElem?_toArray])|(simp only [List.getElem?_cons_succ])|(simp only [List.getElem?_cons_zero])|(simp only [List.reverse_cons])|(simp only [List.reverse_nil])|(simp only [List.nil_append])|(simp only [List.cons_append]))
  repeat (first
      | (first|(refine g_plain rfl ?_)|(refine g_yes rfl rfl rfl (by simp only [List.getElem?_toArray, List.getElem?_cons_succ, List.getElem?_cons_zero];rfl) (by with_reducible constructor) ?_)
         apply Exists.intro; refine ⟨?_, ?_⟩
         focus (intro wq hq0;(first|have hq : Own _ _ _ wq := hq0|have hq : Own _ _ _ wq := hq0.1|skip);first|((with_reducible show givesAt _ ({ dst := _, op := Op.load _ _, type := _, pos := _, after := _, guard := _ } : Oper) _ _ _);first|(exact givesAt_rd rfl (by rfl) (by first|exact rd_1 (by repeat constructor) (by first|rfl|assumption)|exact rd_w (by repeat constructor) (by rfl)|((first|refine rd_o ‹_› (by rfl) ?_|refine rd_h ‹_› (by rfl) ?_|refine rd_1o ‹_› ?_|refine rd_1h ‹_› (by first|rfl|assumption) ?_);first|exact nmn|assumption|simp)) hq))|(go_simp;first|(with_reducible rfl)))
         simp only [Act.put, List.setIfInBounds_toArray];(try simp only [List.set_cons_succ]);(try simp only [List.set_cons_zero]))
      | (refine g_no rfl rfl rfl (by simp only [List.getElem?_toArray, List.getElem?_cons_succ, List.getElem?_cons_zero];rfl) (by with_reducible constructor) ?_;simp only [Act.put, List.setIfInBounds_toArray];(try simp only [List.set_cons_succ]);(try simp only [List.set_cons_zero])))
  refine g_nil ?_
  clear hS hcl
  intro hcl ww hS
  refine own_done (by kernel_rfl) ?_
  (try simp only [Act.put]);(try simp only [List.setIfInBounds_toArray]);(try simp only [List.set_cons_succ]);(try simp only [List.set_cons_zero])
  go_wp2_with (first|(refine own_unguard (by rfl) ?_)|(refine w_ld rfl _ rfl (by rfl) (by first|exact rd_1 (by repeat constructor) (by first|rfl|assumption)|exact rd_w (by repeat constructor) (by rfl)|((first|refine rd_o ‹_› (by rfl) ?_|refine rd_h ‹_› (by rfl) ?_|refine rd_1o ‹_› ?_|refine rd_1h ‹_› (by first|rfl|assumption) ?_);first|exact nmn|assumption|simp)) hS ?_)|((first|refine own_box rfl _ _ rfl (by rfl) hS ?_|refine w_al rfl rfl hS ?_);clear hS;(try clear ww);intro bb ww hS)|((first|refine w_st rfl _ _ rfl (by rfl) (by rfl) (by repeat constructor) (by rfl) (by rfl) (by first|rfl|assumption) hS ?_|refine w_s1 rfl _ _ rfl (by rfl) (by repeat constructor) (by first|exact .c|exact .t rfl) (by rfl) (by repeat constructor) hS ?_);clear hS;(try clear ww);intro ww hS))
  go_at_call 25
  refine Calls.mono (box_At_I P n base _ X0 0 _ (repP_step HrP.out (chainH HC0.out hD0 hS).below) iX.1 i64_0 HsB.out.1.1) ?_
  rintro e w3 ⟨cs3, rfl, hr3, hb3⟩
  obtain ⟨P1, D1, hD1, hPP1, hs1, q1, hS1, hC1⟩ := own_give HS0.out hS hr3 hb3 (bself _)
  have HC1 := Lib.hid (chainH HC0.out hD0 hC1)
  have HS1 := Lib.hid hs1
  have Q1 := Lib.hid q1
  obtain ⟨e0, e1, e2, e3, e4, e5, e6, e7, e8, e9, e10, rfl⟩ := eleven q1.len
  clear hS hs1 hr3 hb3 hC1 q1
  (try clear ww)
  have hS := hS1
  clear hS1
  go_upto_region 19 with (first|(refine own_unguard (by rfl) ?_)|(refine own_buildSlice rfl _ _ 1 _ rfl [e0, e1, e2, e3, e4, e5, e6, e7, e8, e9, e10] hS Try.underlying30 (by kernel_rfl) ?_;clear hS;(try clear ww);intro bs ww hS)|(refine w_ld rfl _ rfl (by rfl) (by first|exact rd_1 (by repeat constructor) (by first|rfl|assumption)|exact rd_w (by repeat constructor) (by rfl)|((first|refine rd_o ‹_› (by rfl) ?_|refine rd_h ‹_› (by rfl) ?_|refine rd_1o ‹_› ?_|refine rd_1h ‹_› (by first|rfl|assumption) ?_);first|exact nmn|assumption|simp)) hS ?_)|((first|refine own_box rfl _ _ rfl (by rfl) hS ?_|refine w_al rfl rfl hS ?_);clear hS;(try clear ww);intro bb ww hS)|((first|refine w_st rfl _ _ rfl (by rfl) (by rfl) (by repeat constructor) (by rfl) (by rfl) (by first|rfl|assumption) hS ?_|refine w_s1 rfl _ _ rfl (by rfl) (by repeat constructor) (by first|exact .c|exact .t rfl) (by rfl) (by repeat constructor) hS ?_);clear hS;(try clear ww);intro ww hS))
  (try simp only [Act.put]);(try simp only [List.setIfInBounds_toArray]);(try simp only [List.set_cons_succ]);(try simp only [List.set_cons_zero])
  refine own_region hS (by kernel_rfl) (by kernel_rfl) ?_
  (try simp only [List.append])
  (try simp only);(try simp only [List.drop_succ_cons]);(try simp only [List.drop_zero]);(try simp only [List.take_succ_cons]);(try simp only [List.take_zero])
  repeat (first
      | (first|(refine quiet_plain rfl ?_)|(refine quiet_yes rfl rfl rfl (by simp only [List.getElem?_toArray, List.getElem?_cons_succ, List.getElem?_cons_zero];rfl) (by with_reducible constructor) ?_)
         apply Exists.intro; refine ⟨?_, ?_⟩
         focus (intro wq hq0;have hq : Own _ _ _ wq := hq0;first|(exact quietAt_rd rfl (by rfl) (by first|exact rd_1 (by repeat constructor) (by first|rfl|assumption)|exact rd_w (by repeat constructor) (by rfl)|((first|refine rd_o ‹_› (by rfl) ?_|refine rd_h ‹_› (by rfl) ?_|refine rd_1o ‹_› ?_|refine rd_1h ‹_› (by first|rfl|assumption) ?_);first|exact nmn|assumption|simp)) hq)|(go_simp;first|(with_reducible rfl)))
         simp only [Act.put, List.setIfInBounds_toArray, List.set_cons_zero, List.set_cons_succ])
      | (refine quiet_no rfl rfl rfl (by simp only [List.getElem?_toArray, List.getElem?_cons_succ, List.getElem?_cons_zero];rfl) (by with_reducible constructor) ?_;simp only [Act.put, List.setIfInBounds_toArray, List.set_cons_zero, List.set_cons_succ]))
  refine wpQuiet_nil ?_
  clear hS
  intro ww hS
  go_wp2_with (first|(refine own_unguard (by rfl) ?_)|(refine w_ld rfl _ rfl (by rfl) (by first|exact rd_1 (by repeat constructor) (by first|rfl|assumption)|exact rd_w (by repeat constructor) (by rfl)|((first|refine rd_o ‹_› (by rfl) ?_|refine rd_h ‹_› (by rfl) ?_|refine rd_1o ‹_› ?_|refine rd_1h ‹_› (by first|rfl|assumption) ?_);first|exact nmn|assumption|simp)) hS ?_)|((first|refine own_box rfl _ _ rfl (by rfl) hS ?_|refine w_al rfl rfl hS ?_);clear hS;(try clear ww);intro bb ww hS)|((first|refine w_st rfl _ _ rfl (by rfl) (by rfl) (by repeat constructor) (by rfl) (by rfl) (by first|rfl|assumption) hS ?_|refine w_s1 rfl _ _ rfl (by rfl) (by repeat constructor) (by first|exact .c|exact .t rfl) (by rfl) (by repeat constructor) hS ?_);clear hS;(try clear ww);intro ww hS))
  refine wp_loop_rounds 4 ?_
  rw [rounds_succ]
  have g2x := rangeAt_below Hs.out HC1.out.below
  have n2x := HS1.out.old _ lsk
  go_upto_region 23 with (first|(refine own_unguard (by rfl) ?_)|(refine w_ld rfl _ rfl (by rfl) (by first|exact rd_1 (by repeat constructor) (by first|rfl|assumption)|exact rd_w (by repeat constructor) (by rfl)|((first|refine rd_o ‹_› (by rfl) ?_|refine rd_h ‹_› (by rfl) ?_|refine rd_1o ‹_› ?_|refine rd_1h ‹_› (by first|rfl|assumption) ?_);first|exact nmn|assumption|simp)) hS ?_)|((first|refine own_box rfl _ _ rfl (by rfl) hS ?_|refine w_al rfl rfl hS ?_);clear hS;(try clear ww);intro bb ww hS)|((first|refine w_st rfl _ _ rfl (by rfl) (by rfl) (by repeat constructor) (by rfl) (by rfl) (by first|rfl|assumption) hS ?_|refine w_s1 rfl _ _ rfl (by rfl) (by repeat constructor) (by first|exact .c|exact .t rfl) (by rfl) (by repeat constructor) hS ?_);clear hS;(try clear ww);intro ww hS))
  (try simp only [Act.put]);(try simp only [List.setIfInBounds_toArray]);(try simp only [List.set_cons_succ]);(try simp only [List.set_cons_zero])
  refine own_region hS (by kernel_rfl) (by kernel_rfl) ?_
  (try simp only [List.append])
  (try simp only);(try simp only [List.drop_succ_cons]);(try simp only [List.drop_zero]);(try simp only [List.take_succ_cons]);(try simp only [List.take_zero])
  repeat (first
      | (first|(refine quiet_plain rfl ?_)|(refine quiet_yes rfl rfl rfl (by simp only [List.getElem?_toArray, List.getElem?_cons_succ, List.getElem?_cons_zero];rfl) (by with_reducible constructor) ?_)
         apply Exists.intro; refine ⟨?_, ?_⟩
         focus (intro wq hq0;have hq : Own _ _ _ wq := hq0;first|(exact quietAt_rd rfl (by rfl) (by first|exact rd_1 (by repeat constructor) (by first|rfl|assumption)|exact rd_w (by repeat constructor) (by rfl)|((first|refine rd_o ‹_› (by rfl) ?_|refine rd_h ‹_› (by rfl) ?_|refine rd_1o ‹_› ?_|refine rd_1h ‹_› (by first|rfl|assumption) ?_);first|exact nmn|assumption|simp)) hq)|(go_simp;first|(go_at_call 21;exact quietG hq (H17.out _))|(with_reducible rfl)))
         simp only [Act.put, List.setIfInBounds_toArray, List.set_cons_zero, List.set_cons_succ])
      | (refine quiet_no rfl rfl rfl (by simp only [List.getElem?_toArray, List.getElem?_cons_succ, List.getElem?_cons_zero];rfl) (by with_reducible constructor) ?_;simp only [Act.put, List.setIfInBounds_toArray, List.set_cons_zero, List.set_cons_succ]))
  refine wpQuiet_nil ?_
  clear hS
  intro ww hS
  go_wp2_with (first|(refine own_unguard (by rfl) ?_)|(refine w_ld rfl _ rfl (by rfl) (by first|exact rd_1 (by repeat constructor) (by first|rfl|assumption)|exact rd_w (by repeat constructor) (by rfl)|((first|refine rd_o ‹_› (by rfl) ?_|refine rd_h ‹_› (by rfl) ?_|refine rd_1o ‹_› ?_|refine rd_1h ‹_› (by first|rfl|assumption) ?_);first|exact nmn|assumption|simp)) hS ?_)|((first|refine own_box rfl _ _ rfl (by rfl) hS ?_|refine w_al rfl rfl hS ?_);clear hS;(try clear ww);intro bb ww hS)|((first|refine w_st rfl _ _ rfl (by rfl) (by rfl) (by repeat constructor) (by rfl) (by rfl) (by first|rfl|assumption) hS ?_|refine w_s1 rfl _ _ rfl (by rfl) (by repeat constructor) (by first|exact .c|exact .t rfl) (by rfl) (by repeat constructor) hS ?_);clear hS;(try clear ww);intro ww hS))
  go_at_call 25
  refine Calls.mono (box_At_I P1 n sb _ (X1) (-dn) _ (repP_mono (repP_step HsP.out (chainH HC1.out hD1 hS).below) hPP1) iX.2.1 jY HsS.out.1.1) ?_
  rintro e w20 ⟨cs4, rfl, hr4, hb4⟩
  obtain ⟨P2, D2, hD2, hPP2, hs2, q2, hS2, hC2⟩ := own_give HS1.out hS hr4 hb4 (bself _)
  have HC2 := Lib.hid (chainH HC1.out hD1 hC2)
  have HS2 := Lib.hid hs2
  have Q2 := Lib.hid q2
  have Q12 := Lib.hid (repP_mono (HS1.out.turn Q1.out hC2) hPP2)
  have hall2 := rep_all q2
  obtain ⟨f0, f1, f2, f3, f4, f5, f6, f7, f8, f9, f10, rfl⟩ := eleven q2.len
  clear hS hs2 hr4 hb4 hC2 q2
  (try clear ww)
  have hS := hS2
  clear hS2
  go_wp2_with (first|(refine own_unguard (by rfl) ?_)|(refine own_buildSlice rfl _ _ 1 _ rfl [f0, f1, f2, f3, f4, f5, f6, f7, f8, f9, f10] hS Try.underlying30 (by kernel_rfl) ?_;clear hS;(try clear ww);intro bn ww hS)|(refine own_append_new (n := 1) (xs := [e0, e1, e2, e3, e4, e5, e6, e7, e8, e9, e10]) (X := [(bs, [e0, e1, e2, e3, e4, e5, e6, e7, e8, e9, e10])]) (L := [_, _, _, _, _, _, _, _, _, _]) rfl _ _ _ rfl ⟨rfl, .inr ⟨bs, 1, [], rfl, Nat.le_refl _, by simp [maxLen], rfl, rfl⟩⟩ rfl rfl (hS.perm (lm_perm _ _ _ _)) rfl hall2 el_box (by decide) (by simp only [maxLen];omega) (by omega) ?_;clear hS;(try clear ww);intro v1 JL1 ww hS hX1;obtain ⟨y1, k1, rfl⟩ := hX1.slice;simp only [List.cons_append, List.nil_append] at hS)|(refine w_ld rfl _ rfl (by rfl) (by first|exact rd_1 (by repeat constructor) (by first|rfl|assumption)|exact rd_w (by repeat constructor) (by rfl)|((first|refine rd_o ‹_› (by rfl) ?_|refine rd_h ‹_› (by rfl) ?_|refine rd_1o ‹_› ?_|refine rd_1h ‹_› (by first|rfl|assumption) ?_);first|exact nmn|assumption|simp)) hS ?_)|((first|refine own_box rfl _ _ rfl (by rfl) hS ?_|refine w_al rfl rfl hS ?_);clear hS;(try clear ww);intro bb ww hS)|((first|refine w_st rfl _ _ rfl (by rfl) (by rfl) (by repeat constructor) (by rfl) (by rfl) (by first|rfl|assumption) hS ?_|refine w_s1 rfl _ _ rfl (by rfl) (by repeat constructor) (by first|exact .c|exact .t rfl) (by rfl) (by repeat constructor) hS ?_);clear hS;(try clear ww);intro ww hS))
  rw [rounds_succ]
  go_wp2_with (first|(refine own_unguard (by rfl) ?_)|(refine w_ld rfl _ rfl (by rfl) (by first|exact rd_1 (by repeat constructor) (by first|rfl|assumption)|exact rd_w (by repeat constructor) (by rfl)|((first|refine rd_o ‹_› (by rfl) ?_|refine rd_h ‹_› (by rfl) ?_|refine rd_1o ‹_› ?_|refine rd_1h ‹_› (by first|rfl|assumption) ?_);first|exact nmn|assumption|simp)) hS ?_)|((first|refine own_box rfl _ _ rfl (by rfl) hS ?_|refine w_al rfl rfl hS ?_);clear hS;(try clear ww);intro bb ww hS)|((first|refine w_st rfl _ _ rfl (by rfl) (by rfl) (by repeat constructor) (by rfl) (by rfl) (by first|rfl|assumption) hS ?_|refine w_s1 rfl _ _ rfl (by rfl) (by repeat constructor) (by first|exact .c|exact .t rfl) (by rfl) (by repeat constructor) hS ?_);clear hS;(try clear ww);intro ww hS))
  refine wp_loop_rounds 1 ?_
  rw [rounds_succ]
  go_wp2_with (first|(refine own_unguard (by rfl) ?_)|(refine w_ld rfl _ rfl (by rfl) (by first|exact rd_1 (by repeat constructor) (by first|rfl|assumption)|exact rd_w (by repeat constructor) (by rfl)|((first|refine rd_o ‹_› (by rfl) ?_|refine rd_h ‹_› (by rfl) ?_|refine rd_1o ‹_› ?_|refine rd_1h ‹_› (by first|rfl|assumption) ?_);first|exact nmn|assumption|simp)) hS ?_)|((first|refine own_box rfl _ _ rfl (by rfl) hS ?_|refine w_al rfl rfl hS ?_);clear hS;(try clear ww);intro bb ww hS)|((first|refine w_st rfl _ _ rfl (by rfl) (by rfl) (by repeat constructor) (by rfl) (by rfl) (by first|rfl|assumption) hS ?_|refine w_s1 rfl _ _ rfl (by rfl) (by repeat constructor) (by first|exact .c|exact .t rfl) (by rfl) (by repeat constructor) hS ?_);clear hS;(try clear ww);intro ww hS))
  have hrow : RepLP P2 _ (n + 1) y1 [atXY (n + 1) base X0 0, atXY (n + 1) sb X1 (-dn)] := sl_kids hS (fun x hx => by simp [hx]) hX1 rfl ⟨_, _, rfl, HS2.out.turn Q12.out hS, ⟨_, [], by simp, HS2.out.turn Q2.out hS, rfl⟩⟩
  go_at_call 26
  refine Calls.mono (box_List_I P2 (n + 1) [atXY (n + 1) base X0 0, atXY (n + 1) sb X1 (-dn)] _ k1 E bh DD _ hrow HSm.out (by simp) iE iH iD) ?_
  rintro e wA ⟨csA, rfl, hrA, hbA⟩
  obtain ⟨PA, DA, hDA, hPPA, hsA, qA, hS2, hC2⟩ := own_give HS2.out hS hrA hbA (bself _)
  have HCA := Lib.hid (chainH HC2.out hD2 hC2)
  have HSA := Lib.hid hsA
  have QA := Lib.hid qA
  have hallA := rep_all qA
  obtain ⟨g0, g1, g2, g3, g4, g5, g6, g7, g8, g9, g10, rfl⟩ := eleven qA.len
  clear hS hrA hbA hsA qA hC2 hrow
  (try clear ww)
  have hS := hS2
  clear hS2
  by_cases hvR : validB (n + 2) (listB (n + 1) E bh DD [atXY (n + 1) base X0 0, atXY (n + 1) sb X1 (-dn)])
  · have HvR := Lib.hid hvR
    have HVR := Lib.hid (fun (ww : World) (L' : List (Nat × List Value)) (h : Own DA wA L' ww) => box_Valid_calls (n + 2) _ _ ww (HSA.out.turn QA.out h).rep (HSA.out.turn QA.out h).rep.wide _ (iff_t HvR.out))
    clear hvR
    go_wp2_with (first|(refine own_unguard (by rfl) ?_)|(go_at_call 20;refine own_calls hS (HVR.out _ _ hS) ?_;clear hS;(try clear ww);intro ww hS)|(refine w_ld rfl _ rfl (by rfl) (by first|exact rd_1 (by repeat constructor) (by first|rfl|assumption)|exact rd_w (by repeat constructor) (by rfl)|((first|refine rd_o ‹_› (by rfl) ?_|refine rd_h ‹_› (by rfl) ?_|refine rd_1o ‹_› ?_|refine rd_1h ‹_› (by first|rfl|assumption) ?_);first|exact nmn|assumption|simp)) hS ?_)|((first|refine own_box rfl _ _ rfl (by rfl) hS ?_|refine w_al rfl rfl hS ?_);clear hS;(try clear ww);intro bb ww hS)|((first|refine w_st rfl _ _ rfl (by rfl) (by rfl) (by repeat constructor) (by rfl) (by rfl) (by first|rfl|assumption) hS ?_|refine w_s1 rfl _ _ rfl (by rfl) (by repeat constructor) (by first|exact .c|exact .t rfl) (by rfl) (by repeat constructor) hS ?_);clear hS;(try clear ww);intro ww hS))
    have hc := (hS.get (atl (by exact (.next (.next (.next (.next (.next (.next (.next .here)))))))))).cell
    refine bodyPost_ret (v := .tuple #[.agg #[g0, g1, g2, g3, g4, g5, g6, g7, g8, g9, g10], .int .i64 0]) (by simp [results, Try.results10, go_sem, hc]) rfl ⟨fun _ => ⟨_, rfl, HSA.out.ends QA.out hS, (chainH HCA.out hDA hS).below⟩, fun h => absurd HvR.out h⟩
  · have HvR := Lib.hid hvR
    have HVR := Lib.hid (fun (ww : World) (L' : List (Nat × List Value)) (h : Own DA wA L' ww) => box_Valid_calls (n + 2) _ _ ww (HSA.out.turn QA.out h).rep (HSA.out.turn QA.out h).rep.wide _ (iff_f HvR.out))
    clear hvR
    go_wp2_with (first|(refine own_unguard (by rfl) ?_)|(go_at_call 20;refine own_calls hS (HVR.out _ _ hS) ?_;clear hS;(try clear ww);intro ww hS)|(refine w_ld rfl _ rfl (by rfl) (by first|exact rd_1 (by repeat constructor) (by first|rfl|assumption)|exact rd_w (by repeat constructor) (by rfl)|((first|refine rd_o ‹_› (by rfl) ?_|refine rd_h ‹_› (by rfl) ?_|refine rd_1o ‹_› ?_|refine rd_1h ‹_› (by first|rfl|assumption) ?_);first|exact nmn|assumption|simp)) hS ?_)|((first|refine own_box rfl _ _ rfl (by rfl) hS ?_|refine w_al rfl rfl hS ?_);clear hS;(try clear ww);intro bb ww hS)|((first|refine w_st rfl _ _ rfl (by rfl) (by rfl) (by repeat constructor) (by rfl) (by rfl) (by first|rfl|assumption) hS ?_|refine w_s1 rfl _ _ rfl (by rfl) (by repeat constructor) (by first|exact .c|exact .t rfl) (by rfl) (by repeat constructor) hS ?_);clear hS;(try clear ww);intro ww hS))
    have hc := (hS.get (atl (by exact (.next (.next (.next (.next (.next (.next (.next .here)))))))))).cell
    refine bodyPost_ret (v := .tuple #[.agg #[.int .i64 0, .string ⟨#[]⟩, .int .i64 0, .int .i64 0, .int .i64 0, .int .i64 0, .int .i64 0, .int .i64 0, .slice none 0 0, .int .i64 0, .slice none 0 0], .int .i64 6]) (by simp [results, Try.results10, go_sem, hc]) rfl ⟨fun h => absurd h HvR.out, fun _ => ⟨_, rfl, rep_zero m _, (chainH HCA.out hDA hS).below⟩⟩

end Go.Proofs.Ytdbcdjiclkmknaa
