/- Limits: Make, what is not valid. -/
import Derived.Test.YtdbcdjiclkmknaaK19
import Derived.Test.YtdbcdjiclkmknaaK08
namespace Go.Proofs.Ytdbcdjiclkmknaa
open Go.RowKit

attribute [local irreducible] wpQuiet wpG wpP wpK wpList Code.wp Calls

theorem RepL.one35 {w : World} {n : Nat} {x : Option Addr} {b : Bx n} (h : RepL w n x [b]) : ∃ k o css, x = some ⟨k, o, none⟩ ∧ w.rangeAt k o css ∧ Rep w n b css := by
  obtain ⟨k, o, css, rfl, hr, hp⟩ := h 0 b rfl
  rw [Nat.zero_mul, Nat.add_zero] at hr
  exact ⟨k, o, css, rfl, hr, hp⟩

set_option maxHeartbeats 8000000 in
set_option maxRecDepth 100000 in
theorem limMake_bad0 (F : Fnt) (l : Int) (c : Bool) (n m : Nat) (base : Bx (n + 1)) (subs sups : List (Bx (n + 1))) (cs : List Value) (sx ux : Option Addr) (sc uc : Nat) (w : World) (hF : FntOk w F) (hr : Rep w (n + 1) base cs) (_hs : RepL w (n + 1) sx subs) (_hu : RepL w (n + 1) ux sups) (hx : PctOk F l 0 1) : Calls Try.prog 10 #[F.val, .agg #[.int .i64 l, .bool c], .agg cs.toArray, .slice sx subs.length sc, .slice ux sups.length uc] w (GivesBE (m + 1) (zeroB m) 1 w) := by
  have HPc := Lib.hid (fun w' (h : Below w.heap.size w w') => style_Percent_calls F l 0 1 c w' (hF.below h) hx)
  have hall := rep_all hr
  obtain ⟨c0, c1, c2, c3, c4, c5, c6, c7, c8, c9, c10, rfl⟩ := eleven hr.len
  clear hr _hs _hu hF hx
  go_enter Try.func10, Try.ntmps10
  have hS := own_start w
  go_wp2_with (first|(refine own_unguard (by rfl) ?_)|(go_at_call 19;refine own_calls hS (HPc.out _ hS.below) ?_;clear hS;(try clear ww);intro ww hS)|(refine own_buildSlice rfl _ _ 1 _ rfl [c0, c1, c2, c3, c4, c5, c6, c7, c8, c9, c10] hS Try.underlying30 (by kernel_rfl) ?_;clear hS;(try clear ww);intro bo ww hS)|(refine w_ld rfl _ rfl (by rfl) (by first|exact rd_1 (by repeat constructor) (by first|rfl|assumption)|exact rd_w (by repeat constructor) (by rfl)|((first|refine rd_o ‹_› (by rfl) ?_|refine rd_h ‹_› (by rfl) ?_|refine rd_1o ‹_› ?_|refine rd_1h ‹_› (by first|rfl|assumption) ?_);first|exact nmn|assumption|simp)) hS ?_)|((first|refine own_box rfl _ _ rfl (by rfl) hS ?_|refine w_al rfl rfl hS ?_);clear hS;(try clear ww);intro bb ww hS)|((first|refine w_st rfl _ _ rfl (by rfl) (by rfl) (by repeat constructor) (by rfl) (by rfl) (by first|rfl|assumption) hS ?_|refine w_s1 rfl _ _ rfl (by rfl) (by repeat constructor) (by first|exact .c|exact .t rfl) (by rfl) (by repeat constructor) hS ?_);clear hS;(try clear ww);intro ww hS))
  have hc := (hS.get at0).cell
  refine bodyPost_ret (v := .tuple #[.agg #[.int .i64 0, .string ⟨#[]⟩, .int .i64 0, .int .i64 0, .int .i64 0, .int .i64 0, .int .i64 0, .int .i64 0, .slice none 0 0, .int .i64 0, .slice none 0 0], .int .i64 1]) (by simp [results, Try.results10, go_sem, hc]) rfl ⟨_, rfl, rep_zero m _, hS.below⟩

set_option maxHeartbeats 8000000 in
set_option maxRecDepth 100000 in
theorem limMake_bad1 (F : Fnt) (l : Int) (c : Bool) (n m : Nat) (base : Bx (n + 1)) (subs sups : List (Bx (n + 1))) (cs : List Value) (sx ux : Option Addr) (sc uc : Nat) (w : World) (hF : FntOk w F) (hr : Rep w (n + 1) base cs) (_hs : RepL w (n + 1) sx subs) (_hu : RepL w (n + 1) ux sups) (p : Int) (hx : PctOk F l p 0) (h1 : 1 < subs.length) : Calls Try.prog 10 #[F.val, .agg #[.int .i64 l, .bool c], .agg cs.toArray, .slice sx subs.length sc, .slice ux sups.length uc] w (GivesBE (m + 1) (zeroB m) 1 w) := by
  have HPc := Lib.hid (fun w' (h : Below w.heap.size w w') => style_Percent_calls F l p 0 c w' (hF.below h) hx)
  have d1 : decide ((1 : Int) < (subs.length : Int)) = true := decide_eq_true (by omega)
  have hall := rep_all hr
  obtain ⟨c0, c1, c2, c3, c4, c5, c6, c7, c8, c9, c10, rfl⟩ := eleven hr.len
  clear hr _hs _hu hF hx  h1
  go_enter Try.func10, Try.ntmps10
  have hS := own_start w
  go_wp2_with (first|(refine own_unguard (by rfl) ?_)|(go_at_call 19;refine own_calls hS (HPc.out _ hS.below) ?_;clear hS;(try clear ww);intro ww hS)|(refine own_buildSlice rfl _ _ 1 _ rfl [c0, c1, c2, c3, c4, c5, c6, c7, c8, c9, c10] hS Try.underlying30 (by kernel_rfl) ?_;clear hS;(try clear ww);intro bo ww hS)|(refine w_ld rfl _ rfl (by rfl) (by first|exact rd_1 (by repeat constructor) (by first|rfl|assumption)|exact rd_w (by repeat constructor) (by rfl)|((first|refine rd_o ‹_› (by rfl) ?_|refine rd_h ‹_› (by rfl) ?_|refine rd_1o ‹_› ?_|refine rd_1h ‹_› (by first|rfl|assumption) ?_);first|exact nmn|assumption|simp)) hS ?_)|((first|refine own_box rfl _ _ rfl (by rfl) hS ?_|refine w_al rfl rfl hS ?_);clear hS;(try clear ww);intro bb ww hS)|((first|refine w_st rfl _ _ rfl (by rfl) (by rfl) (by repeat constructor) (by rfl) (by rfl) (by first|rfl|assumption) hS ?_|refine w_s1 rfl _ _ rfl (by rfl) (by repeat constructor) (by first|exact .c|exact .t rfl) (by rfl) (by repeat constructor) hS ?_);clear hS;(try clear ww);intro ww hS))
  have hc := (hS.get at0).cell
  refine bodyPost_ret (v := .tuple #[.agg #[.int .i64 0, .string ⟨#[]⟩, .int .i64 0, .int .i64 0, .int .i64 0, .int .i64 0, .int .i64 0, .int .i64 0, .slice none 0 0, .int .i64 0, .slice none 0 0], .int .i64 1]) (by simp [results, Try.results10, go_sem, hc]) rfl ⟨_, rfl, rep_zero m _, hS.below⟩

set_option maxHeartbeats 8000000 in
set_option maxRecDepth 100000 in
theorem limMake_bad2 (F : Fnt) (l : Int) (c : Bool) (n m : Nat) (base : Bx (n + 1)) (subs sups : List (Bx (n + 1))) (cs : List Value) (sx ux : Option Addr) (sc uc : Nat) (w : World) (hF : FntOk w F) (hr : Rep w (n + 1) base cs) (_hs : RepL w (n + 1) sx subs) (_hu : RepL w (n + 1) ux sups) (p : Int) (hx : PctOk F l p 0) (h1 : subs.length ≤ 1) (h2 : 1 < sups.length) : Calls Try.prog 10 #[F.val, .agg #[.int .i64 l, .bool c], .agg cs.toArray, .slice sx subs.length sc, .slice ux sups.length uc] w (GivesBE (m + 1) (zeroB m) 1 w) := by
  have HPc := Lib.hid (fun w' (h : Below w.heap.size w w') => style_Percent_calls F l p 0 c w' (hF.below h) hx)
  have d1 : decide ((1 : Int) < (subs.length : Int)) = false := decide_eq_false (by omega)
  have d2 : decide ((1 : Int) < (sups.length : Int)) = true := decide_eq_true (by omega)
  have hall := rep_all hr
  obtain ⟨c0, c1, c2, c3, c4, c5, c6, c7, c8, c9, c10, rfl⟩ := eleven hr.len
  clear hr _hs _hu hF hx  h1 h2
  go_enter Try.func10, Try.ntmps10
  have hS := own_start w
  go_wp2_with (first|(refine own_unguard (by rfl) ?_)|(go_at_call 19;refine own_calls hS (HPc.out _ hS.below) ?_;clear hS;(try clear ww);intro ww hS)|(refine own_buildSlice rfl _ _ 1 _ rfl [c0, c1, c2, c3, c4, c5, c6, c7, c8, c9, c10] hS Try.underlying30 (by kernel_rfl) ?_;clear hS;(try clear ww);intro bo ww hS)|(refine w_ld rfl _ rfl (by rfl) (by first|exact rd_1 (by repeat constructor) (by first|rfl|assumption)|exact rd_w (by repeat constructor) (by rfl)|((first|refine rd_o ‹_› (by rfl) ?_|refine rd_h ‹_› (by rfl) ?_|refine rd_1o ‹_› ?_|refine rd_1h ‹_› (by first|rfl|assumption) ?_);first|exact nmn|assumption|simp)) hS ?_)|((first|refine own_box rfl _ _ rfl (by rfl) hS ?_|refine w_al rfl rfl hS ?_);clear hS;(try clear ww);intro bb ww hS)|((first|refine w_st rfl _ _ rfl (by rfl) (by rfl) (by repeat constructor) (by rfl) (by rfl) (by first|rfl|assumption) hS ?_|refine w_s1 rfl _ _ rfl (by rfl) (by repeat constructor) (by first|exact .c|exact .t rfl) (by rfl) (by repeat constructor) hS ?_);clear hS;(try clear ww);intro ww hS))
  have hc := (hS.get at0).cell
  refine bodyPost_ret (v := .tuple #[.agg #[.int .i64 0, .string ⟨#[]⟩, .int .i64 0, .int .i64 0, .int .i64 0, .int .i64 0, .int .i64 0, .int .i64 0, .slice none 0 0, .int .i64 0, .slice none 0 0], .int .i64 1]) (by simp [results, Try.results10, go_sem, hc]) rfl ⟨_, rfl, rep_zero m _, hS.below⟩

set_option maxHeartbeats 8000000 in
set_option maxRecDepth 100000 in
theorem limMake_bad3 (F : Fnt) (l : Int) (c : Bool) (n m : Nat) (base : Bx (n + 1)) (subs sups : List (Bx (n + 1))) (cs : List Value) (sx ux : Option Addr) (sc uc : Nat) (w : World) (hF : FntOk w F) (hr : Rep w (n + 1) base cs) (_hs : RepL w (n + 1) sx subs) (_hu : RepL w (n + 1) ux sups) (p : Int) (hx : PctOk F l p 0) (h1 : subs.length ≤ 1) (h2 : sups.length ≤ 1) (hb : ¬ validB (n + 1) base) : Calls Try.prog 10 #[F.val, .agg #[.int .i64 l, .bool c], .agg cs.toArray, .slice sx subs.length sc, .slice ux sups.length uc] w (GivesBE (m + 1) (zeroB m) 1 w) := by
  have HPc := Lib.hid (fun w' (h : Below w.heap.size w w') => style_Percent_calls F l p 0 c w' (hF.below h) hx)
  have HVb := Lib.hid (fun w' (h : Below w.heap.size w w') => box_Valid_calls (n + 1) base cs w' (hr.step h) hr.wide _ (iff_f hb))
  have a0 := arr3_0
  have a1 := arr3_1
  have a2 := arr3_2
  have d1 : decide ((1 : Int) < (subs.length : Int)) = false := decide_eq_false (by omega)
  have d2 : decide ((1 : Int) < (sups.length : Int)) = false := decide_eq_false (by omega)
  have hall := rep_all hr
  obtain ⟨c0, c1, c2, c3, c4, c5, c6, c7, c8, c9, c10, rfl⟩ := eleven hr.len
  clear hr _hs _hu hF hx hb h1 h2
  go_enter Try.func10, Try.ntmps10
  have hS := own_start w
  iterate 2
    go_wp2_with (first|(refine own_unguard (by rfl) ?_)|(go_at_call 19;refine own_calls hS (HPc.out _ hS.below) ?_;clear hS;(try clear ww);intro ww hS)|(go_at_call 20;refine own_calls hS (by first|exact HVb.out _ hS.below) ?_;clear hS;(try clear ww);intro ww hS)|(refine own_buildSlice rfl _ _ 1 _ rfl [c0, c1, c2, c3, c4, c5, c6, c7, c8, c9, c10] hS Try.underlying30 (by kernel_rfl) ?_;clear hS;(try clear ww);intro bo ww hS)|(refine w_ld rfl _ rfl (by rfl) (by first|exact rd_1 (by repeat constructor) (by first|rfl|assumption)|exact rd_w (by repeat constructor) (by rfl)|((first|refine rd_o ‹_› (by rfl) ?_|refine rd_h ‹_› (by rfl) ?_|refine rd_1o ‹_› ?_|refine rd_1h ‹_› (by first|rfl|assumption) ?_);first|exact nmn|assumption|simp)) hS ?_)|((first|refine own_box rfl _ _ rfl (by rfl) hS ?_|refine w_al rfl rfl hS ?_);clear hS;(try clear ww);intro bb ww hS)|((first|refine w_st rfl _ _ rfl (by rfl) (by rfl) (by repeat constructor) (by rfl) (by rfl) (by first|rfl|assumption) hS ?_|refine w_s1 rfl _ _ rfl (by rfl) (by repeat constructor) (by first|exact .c|exact .t rfl) (by rfl) (by repeat constructor) hS ?_);clear hS;(try clear ww);intro ww hS))
    refine wp_loop_rounds 4 ?_
    rw [rounds_succ]
  go_wp2_with (first|(refine own_unguard (by rfl) ?_)|(go_at_call 19;refine own_calls hS (HPc.out _ hS.below) ?_;clear hS;(try clear ww);intro ww hS)|(go_at_call 20;refine own_calls hS (by first|exact HVb.out _ hS.below) ?_;clear hS;(try clear ww);intro ww hS)|(refine own_buildSlice rfl _ _ 1 _ rfl [c0, c1, c2, c3, c4, c5, c6, c7, c8, c9, c10] hS Try.underlying30 (by kernel_rfl) ?_;clear hS;(try clear ww);intro bo ww hS)|(refine w_ld rfl _ rfl (by rfl) (by first|exact rd_1 (by repeat constructor) (by first|rfl|assumption)|exact rd_w (by repeat constructor) (by rfl)|((first|refine rd_o ‹_› (by rfl) ?_|refine rd_h ‹_› (by rfl) ?_|refine rd_1o ‹_› ?_|refine rd_1h ‹_› (by first|rfl|assumption) ?_);first|exact nmn|assumption|simp)) hS ?_)|((first|refine own_box rfl _ _ rfl (by rfl) hS ?_|refine w_al rfl rfl hS ?_);clear hS;(try clear ww);intro bb ww hS)|((first|refine w_st rfl _ _ rfl (by rfl) (by rfl) (by repeat constructor) (by rfl) (by rfl) (by first|rfl|assumption) hS ?_|refine w_s1 rfl _ _ rfl (by rfl) (by repeat constructor) (by first|exact .c|exact .t rfl) (by rfl) (by repeat constructor) hS ?_);clear hS;(try clear ww);intro ww hS))
  have hc := (hS.get (atl (by exact (.next (.next (.next .here)))))).cell
  refine bodyPost_ret (v := .tuple #[.agg #[.int .i64 0, .string ⟨#[]⟩, .int .i64 0, .int .i64 0, .int .i64 0, .int .i64 0, .int .i64 0, .int .i64 0, .slice none 0 0, .int .i64 0, .slice none 0 0], .int .i64 1]) (by simp [results, Try.results10, go_sem, hc]) rfl ⟨_, rfl, rep_zero m _, hS.below⟩

set_option maxHeartbeats 8000000 in
set_option maxRecDepth 100000 in
theorem limMake_bad4 (F : Fnt) (l : Int) (c : Bool) (n m : Nat) (base : Bx (n + 1)) (sb : Bx (n + 1)) (sups : List (Bx (n + 1))) (cs : List Value) (sx ux : Option Addr) (sc uc : Nat) (w : World) (hF : FntOk w F) (hr : Rep w (n + 1) base cs) (hs : RepL w (n + 1) sx [sb]) (_hu : RepL w (n + 1) ux sups) (p : Int) (hx : PctOk F l p 0) (h2 : sups.length ≤ 1) (hb : validB (n + 1) base) (hv : ¬ validB (n + 1) sb) : Calls Try.prog 10 #[F.val, .agg #[.int .i64 l, .bool c], .agg cs.toArray, .slice sx 1 sc, .slice ux sups.length uc] w (GivesBE (m + 1) (zeroB m) 1 w) := by
  have HPc := Lib.hid (fun w' (h : Below w.heap.size w w') => style_Percent_calls F l p 0 c w' (hF.below h) hx)
  have HVb := Lib.hid (fun w' (h : Below w.heap.size w w') => box_Valid_calls (n + 1) base cs w' (hr.step h) hr.wide _ (iff_t hb))
  have a0 := arr3_0
  have a1 := arr3_1
  have a2 := arr3_2
  obtain ⟨sk, so, ss, rfl, hs1, hs2⟩ := RepL.one35 hs
  have HVs := Lib.hid (fun w' (h : Below w.heap.size w w') => box_Valid_calls (n + 1) sb ss w' (hs2.step h) hs2.wide _ (iff_f hv))
  have halls := rep_all hs2
  obtain ⟨s0, s1, s2, s3, s4, s5, s6, s7, s8, s9, s10, rfl⟩ := eleven hs2.len
  have d2 : decide ((1 : Int) < (sups.length : Int)) = false := decide_eq_false (by omega)
  have hall := rep_all hr
  obtain ⟨c0, c1, c2, c3, c4, c5, c6, c7, c8, c9, c10, rfl⟩ := eleven hr.len
  clear hr hs _hu hF hx hb  h2 hv  hs2
  go_enter Try.func10, Try.ntmps10
  have hS := own_start w
  iterate 2
    go_wp2_with (first|(refine own_unguard (by rfl) ?_)|(go_at_call 19;refine own_calls hS (HPc.out _ hS.below) ?_;clear hS;(try clear ww);intro ww hS)|(go_at_call 20;refine own_calls hS (by first|exact HVb.out _ hS.below|exact HVs.out _ hS.below) ?_;clear hS;(try clear ww);intro ww hS)|(refine own_buildSlice rfl _ _ 1 _ rfl [c0, c1, c2, c3, c4, c5, c6, c7, c8, c9, c10] hS Try.underlying30 (by kernel_rfl) ?_;clear hS;(try clear ww);intro bo ww hS)|(refine w_ld rfl _ rfl (by rfl) (by first|exact rd_1 (by repeat constructor) (by first|rfl|assumption)|exact rd_w (by repeat constructor) (by rfl)|((first|refine rd_o ‹_› (by rfl) ?_|refine rd_h ‹_› (by rfl) ?_|refine rd_1o ‹_› ?_|refine rd_1h ‹_› (by first|rfl|assumption) ?_);first|exact nmn|assumption|simp)) hS ?_)|((first|refine own_box rfl _ _ rfl (by rfl) hS ?_|refine w_al rfl rfl hS ?_);clear hS;(try clear ww);intro bb ww hS)|((first|refine w_st rfl _ _ rfl (by rfl) (by rfl) (by repeat constructor) (by rfl) (by rfl) (by first|rfl|assumption) hS ?_|refine w_s1 rfl _ _ rfl (by rfl) (by repeat constructor) (by first|exact .c|exact .t rfl) (by rfl) (by repeat constructor) hS ?_);clear hS;(try clear ww);intro ww hS))
    refine wp_loop_rounds 4 ?_
    rw [rounds_succ]
  go_wp2_with (first|(refine own_unguard (by rfl) ?_)|(go_at_call 19;refine own_calls hS (HPc.out _ hS.below) ?_;clear hS;(try clear ww);intro ww hS)|(go_at_call 20;refine own_calls hS (by first|exact HVb.out _ hS.below|exact HVs.out _ hS.below) ?_;clear hS;(try clear ww);intro ww hS)|(refine own_buildSlice rfl _ _ 1 _ rfl [c0, c1, c2, c3, c4, c5, c6, c7, c8, c9, c10] hS Try.underlying30 (by kernel_rfl) ?_;clear hS;(try clear ww);intro bo ww hS)|(refine w_ld rfl _ rfl (by rfl) (by first|exact rd_1 (by repeat constructor) (by first|rfl|assumption)|exact rd_w (by repeat constructor) (by rfl)|((first|refine rd_o ‹_› (by rfl) ?_|refine rd_h ‹_› (by rfl) ?_|refine rd_1o ‹_› ?_|refine rd_1h ‹_› (by first|rfl|assumption) ?_);first|exact nmn|assumption|simp)) hS ?_)|((first|refine own_box rfl _ _ rfl (by rfl) hS ?_|refine w_al rfl rfl hS ?_);clear hS;(try clear ww);intro bb ww hS)|((first|refine w_st rfl _ _ rfl (by rfl) (by rfl) (by repeat constructor) (by rfl) (by rfl) (by first|rfl|assumption) hS ?_|refine w_s1 rfl _ _ rfl (by rfl) (by repeat constructor) (by first|exact .c|exact .t rfl) (by rfl) (by repeat constructor) hS ?_);clear hS;(try clear ww);intro ww hS))
  rw [rounds_succ]
  go_wp2_with (first|(refine own_unguard (by rfl) ?_)|(refine w_ld rfl _ rfl (by rfl) (by first|exact rd_1 (by repeat constructor) (by first|rfl|assumption)|exact rd_w (by repeat constructor) (by rfl)|((first|refine rd_o ‹_› (by rfl) ?_|refine rd_h ‹_› (by rfl) ?_|refine rd_1o ‹_› ?_|refine rd_1h ‹_› (by first|rfl|assumption) ?_);first|exact nmn|assumption|simp)) hS ?_)|((first|refine own_box rfl _ _ rfl (by rfl) hS ?_|refine w_al rfl rfl hS ?_);clear hS;(try clear ww);intro bb ww hS)|((first|refine w_st rfl _ _ rfl (by rfl) (by rfl) (by repeat constructor) (by rfl) (by rfl) (by first|rfl|assumption) hS ?_|refine w_s1 rfl _ _ rfl (by rfl) (by repeat constructor) (by first|exact .c|exact .t rfl) (by rfl) (by repeat constructor) hS ?_);clear hS;(try clear ww);intro ww hS))
  rw [rounds_succ]
  go_wp2_with (first|(refine own_unguard (by rfl) ?_)|(go_at_call 19;refine own_calls hS (HPc.out _ hS.below) ?_;clear hS;(try clear ww);intro ww hS)|(go_at_call 20;refine own_calls hS (by first|exact HVb.out _ hS.below|exact HVs.out _ hS.below) ?_;clear hS;(try clear ww);intro ww hS)|(refine own_buildSlice rfl _ _ 1 _ rfl [c0, c1, c2, c3, c4, c5, c6, c7, c8, c9, c10] hS Try.underlying30 (by kernel_rfl) ?_;clear hS;(try clear ww);intro bo ww hS)|(refine w_ld rfl _ rfl (by rfl) (by first|exact rd_1 (by repeat constructor) (by first|rfl|assumption)|exact rd_w (by repeat constructor) (by rfl)|((first|refine rd_o ‹_› (by rfl) ?_|refine rd_h ‹_› (by rfl) ?_|refine rd_1o ‹_› ?_|refine rd_1h ‹_› (by first|rfl|assumption) ?_);first|exact nmn|assumption|simp)) hS ?_)|((first|refine own_box rfl _ _ rfl (by rfl) hS ?_|refine w_al rfl rfl hS ?_);clear hS;(try clear ww);intro bb ww hS)|((first|refine w_st rfl _ _ rfl (by rfl) (by rfl) (by repeat constructor) (by rfl) (by rfl) (by first|rfl|assumption) hS ?_|refine w_s1 rfl _ _ rfl (by rfl) (by repeat constructor) (by first|exact .c|exact .t rfl) (by rfl) (by repeat constructor) hS ?_);clear hS;(try clear ww);intro ww hS))
  refine wp_loop_rounds 4 ?_
  rw [rounds_succ]
  go_wp2_with (first|(refine own_unguard (by rfl) ?_)|(go_at_call 19;refine own_calls hS (HPc.out _ hS.below) ?_;clear hS;(try clear ww);intro ww hS)|(go_at_call 20;refine own_calls hS (by first|exact HVb.out _ hS.below|exact HVs.out _ hS.below) ?_;clear hS;(try clear ww);intro ww hS)|(refine own_buildSlice rfl _ _ 1 _ rfl [c0, c1, c2, c3, c4, c5, c6, c7, c8, c9, c10] hS Try.underlying30 (by kernel_rfl) ?_;clear hS;(try clear ww);intro bo ww hS)|(refine w_ld rfl _ rfl (by rfl) (by first|exact rd_1 (by repeat constructor) (by first|rfl|assumption)|exact rd_w (by repeat constructor) (by rfl)|((first|refine rd_o ‹_› (by rfl) ?_|refine rd_h ‹_› (by rfl) ?_|refine rd_1o ‹_› ?_|refine rd_1h ‹_› (by first|rfl|assumption) ?_);first|exact nmn|assumption|simp)) hS ?_)|((first|refine own_box rfl _ _ rfl (by rfl) hS ?_|refine w_al rfl rfl hS ?_);clear hS;(try clear ww);intro bb ww hS)|((first|refine w_st rfl _ _ rfl (by rfl) (by rfl) (by repeat constructor) (by rfl) (by rfl) (by first|rfl|assumption) hS ?_|refine w_s1 rfl _ _ rfl (by rfl) (by repeat constructor) (by first|exact .c|exact .t rfl) (by rfl) (by repeat constructor) hS ?_);clear hS;(try clear ww);intro ww hS))
  have hc := (hS.get (atl (by exact (.next (.next (.next (.next .here))))))).cell
  refine bodyPost_ret (v := .tuple #[.agg #[.int .i64 0, .string ⟨#[]⟩, .int .i64 0, .int .i64 0, .int .i64 0, .int .i64 0, .int .i64 0, .int .i64 0, .slice none 0 0, .int .i64 0, .slice none 0 0], .int .i64 1]) (by simp [results, Try.results10, go_sem, hc]) rfl ⟨_, rfl, rep_zero m _, hS.below⟩

set_option maxHeartbeats 8000000 in
set_option maxRecDepth 100000 in
theorem limMake_bad5 (F : Fnt) (l : Int) (c : Bool) (n m : Nat) (base : Bx (n + 1)) (sp : Bx (n + 1)) (cs : List Value) (sx ux : Option Addr) (sc uc : Nat) (w : World) (hF : FntOk w F) (hr : Rep w (n + 1) base cs) (_hs : RepL w (n + 1) sx []) (hu : RepL w (n + 1) ux [sp]) (p : Int) (hx : PctOk F l p 0) (hb : validB (n + 1) base) (hv : ¬ validB (n + 1) sp) : Calls Try.prog 10 #[F.val, .agg #[.int .i64 l, .bool c], .agg cs.toArray, .slice sx 0 sc, .slice ux 1 uc] w (GivesBE (m + 1) (zeroB m) 1 w) := by
  have HPc := Lib.hid (fun w' (h : Below w.heap.size w w') => style_Percent_calls F l p 0 c w' (hF.below h) hx)
  have HVb := Lib.hid (fun w' (h : Below w.heap.size w w') => box_Valid_calls (n + 1) base cs w' (hr.step h) hr.wide _ (iff_t hb))
  have a0 := arr3_0
  have a1 := arr3_1
  have a2 := arr3_2
  obtain ⟨uk, uo, us, rfl, hu1, hu2⟩ := RepL.one35 hu
  have HVu := Lib.hid (fun w' (h : Below w.heap.size w w') => box_Valid_calls (n + 1) sp us w' (hu2.step h) hu2.wide _ (iff_f hv))
  have hallu := rep_all hu2
  obtain ⟨u0, u1, u2, u3, u4, u5, u6, u7, u8, u9, u10, rfl⟩ := eleven hu2.len
  have hall := rep_all hr
  obtain ⟨c0, c1, c2, c3, c4, c5, c6, c7, c8, c9, c10, rfl⟩ := eleven hr.len
  clear hr _hs hu hF hx hb   hv   hu2
  go_enter Try.func10, Try.ntmps10
  have hS := own_start w
  iterate 2
    go_wp2_with (first|(refine own_unguard (by rfl) ?_)|(go_at_call 19;refine own_calls hS (HPc.out _ hS.below) ?_;clear hS;(try clear ww);intro ww hS)|(go_at_call 20;refine own_calls hS (by first|exact HVb.out _ hS.below|exact HVu.out _ hS.below) ?_;clear hS;(try clear ww);intro ww hS)|(refine own_buildSlice rfl _ _ 1 _ rfl [c0, c1, c2, c3, c4, c5, c6, c7, c8, c9, c10] hS Try.underlying30 (by kernel_rfl) ?_;clear hS;(try clear ww);intro bo ww hS)|(refine w_ld rfl _ rfl (by rfl) (by first|exact rd_1 (by repeat constructor) (by first|rfl|assumption)|exact rd_w (by repeat constructor) (by rfl)|((first|refine rd_o ‹_› (by rfl) ?_|refine rd_h ‹_› (by rfl) ?_|refine rd_1o ‹_› ?_|refine rd_1h ‹_› (by first|rfl|assumption) ?_);first|exact nmn|assumption|simp)) hS ?_)|((first|refine own_box rfl _ _ rfl (by rfl) hS ?_|refine w_al rfl rfl hS ?_);clear hS;(try clear ww);intro bb ww hS)|((first|refine w_st rfl _ _ rfl (by rfl) (by rfl) (by repeat constructor) (by rfl) (by rfl) (by first|rfl|assumption) hS ?_|refine w_s1 rfl _ _ rfl (by rfl) (by repeat constructor) (by first|exact .c|exact .t rfl) (by rfl) (by repeat constructor) hS ?_);clear hS;(try clear ww);intro ww hS))
    refine wp_loop_rounds 4 ?_
    rw [rounds_succ]
  go_wp2_with (first|(refine own_unguard (by rfl) ?_)|(go_at_call 19;refine own_calls hS (HPc.out _ hS.below) ?_;clear hS;(try clear ww);intro ww hS)|(go_at_call 20;refine own_calls hS (by first|exact HVb.out _ hS.below|exact HVu.out _ hS.below) ?_;clear hS;(try clear ww);intro ww hS)|(refine own_buildSlice rfl _ _ 1 _ rfl [c0, c1, c2, c3, c4, c5, c6, c7, c8, c9, c10] hS Try.underlying30 (by kernel_rfl) ?_;clear hS;(try clear ww);intro bo ww hS)|(refine w_ld rfl _ rfl (by rfl) (by first|exact rd_1 (by repeat constructor) (by first|rfl|assumption)|exact rd_w (by repeat constructor) (by rfl)|((first|refine rd_o ‹_› (by rfl) ?_|refine rd_h ‹_› (by rfl) ?_|refine rd_1o ‹_› ?_|refine rd_1h ‹_› (by first|rfl|assumption) ?_);first|exact nmn|assumption|simp)) hS ?_)|((first|refine own_box rfl _ _ rfl (by rfl) hS ?_|refine w_al rfl rfl hS ?_);clear hS;(try clear ww);intro bb ww hS)|((first|refine w_st rfl _ _ rfl (by rfl) (by rfl) (by repeat constructor) (by rfl) (by rfl) (by first|rfl|assumption) hS ?_|refine w_s1 rfl _ _ rfl (by rfl) (by repeat constructor) (by first|exact .c|exact .t rfl) (by rfl) (by repeat constructor) hS ?_);clear hS;(try clear ww);intro ww hS))
  rw [rounds_succ]
  go_wp2_with (first|(refine own_unguard (by rfl) ?_)|(refine w_ld rfl _ rfl (by rfl) (by first|exact rd_1 (by repeat constructor) (by first|rfl|assumption)|exact rd_w (by repeat constructor) (by rfl)|((first|refine rd_o ‹_› (by rfl) ?_|refine rd_h ‹_› (by rfl) ?_|refine rd_1o ‹_› ?_|refine rd_1h ‹_› (by first|rfl|assumption) ?_);first|exact nmn|assumption|simp)) hS ?_)|((first|refine own_box rfl _ _ rfl (by rfl) hS ?_|refine w_al rfl rfl hS ?_);clear hS;(try clear ww);intro bb ww hS)|((first|refine w_st rfl _ _ rfl (by rfl) (by rfl) (by repeat constructor) (by rfl) (by rfl) (by first|rfl|assumption) hS ?_|refine w_s1 rfl _ _ rfl (by rfl) (by repeat constructor) (by first|exact .c|exact .t rfl) (by rfl) (by repeat constructor) hS ?_);clear hS;(try clear ww);intro ww hS))
  rw [rounds_succ]
  go_wp2_with (first|(refine own_unguard (by rfl) ?_)|(go_at_call 19;refine own_calls hS (HPc.out _ hS.below) ?_;clear hS;(try clear ww);intro ww hS)|(go_at_call 20;refine own_calls hS (by first|exact HVb.out _ hS.below|exact HVu.out _ hS.below) ?_;clear hS;(try clear ww);intro ww hS)|(refine own_buildSlice rfl _ _ 1 _ rfl [c0, c1, c2, c3, c4, c5, c6, c7, c8, c9, c10] hS Try.underlying30 (by kernel_rfl) ?_;clear hS;(try clear ww);intro bo ww hS)|(refine w_ld rfl _ rfl (by rfl) (by first|exact rd_1 (by repeat constructor) (by first|rfl|assumption)|exact rd_w (by repeat constructor) (by rfl)|((first|refine rd_o ‹_› (by rfl) ?_|refine rd_h ‹_› (by rfl) ?_|refine rd_1o ‹_› ?_|refine rd_1h ‹_› (by first|rfl|assumption) ?_);first|exact nmn|assumption|simp)) hS ?_)|((first|refine own_box rfl _ _ rfl (by rfl) hS ?_|refine w_al rfl rfl hS ?_);clear hS;(try clear ww);intro bb ww hS)|((first|refine w_st rfl _ _ rfl (by rfl) (by rfl) (by repeat constructor) (by rfl) (by rfl) (by first|rfl|assumption) hS ?_|refine w_s1 rfl _ _ rfl (by rfl) (by repeat constructor) (by first|exact .c|exact .t rfl) (by rfl) (by repeat constructor) hS ?_);clear hS;(try clear ww);intro ww hS))
  refine wp_loop_rounds 1 ?_
  iterate 2
    rw [rounds_succ]
    go_wp2_with (first|(refine own_unguard (by rfl) ?_)|(go_at_call 19;refine own_calls hS (HPc.out _ hS.below) ?_;clear hS;(try clear ww);intro ww hS)|(go_at_call 20;refine own_calls hS (by first|exact HVb.out _ hS.below|exact HVu.out _ hS.below) ?_;clear hS;(try clear ww);intro ww hS)|(refine own_buildSlice rfl _ _ 1 _ rfl [c0, c1, c2, c3, c4, c5, c6, c7, c8, c9, c10] hS Try.underlying30 (by kernel_rfl) ?_;clear hS;(try clear ww);intro bo ww hS)|(refine w_ld rfl _ rfl (by rfl) (by first|exact rd_1 (by repeat constructor) (by first|rfl|assumption)|exact rd_w (by repeat constructor) (by rfl)|((first|refine rd_o ‹_› (by rfl) ?_|refine rd_h ‹_› (by rfl) ?_|refine rd_1o ‹_› ?_|refine rd_1h ‹_› (by first|rfl|assumption) ?_);first|exact nmn|assumption|simp)) hS ?_)|((first|refine own_box rfl _ _ rfl (by rfl) hS ?_|refine w_al rfl rfl hS ?_);clear hS;(try clear ww);intro bb ww hS)|((first|refine w_st rfl _ _ rfl (by rfl) (by rfl) (by repeat constructor) (by rfl) (by rfl) (by first|rfl|assumption) hS ?_|refine w_s1 rfl _ _ rfl (by rfl) (by repeat constructor) (by first|exact .c|exact .t rfl) (by rfl) (by repeat constructor) hS ?_);clear hS;(try clear ww);intro ww hS))
  refine wp_loop_rounds 4 ?_
  rw [rounds_succ]
  go_wp2_with (first|(refine own_unguard (by rfl) ?_)|(go_at_call 19;refine own_calls hS (HPc.out _ hS.below) ?_;clear hS;(try clear ww);intro ww hS)|(go_at_call 20;refine own_calls hS (by first|exact HVb.out _ hS.below|exact HVu.out _ hS.below) ?_;clear hS;(try clear ww);intro ww hS)|(refine own_buildSlice rfl _ _ 1 _ rfl [c0, c1, c2, c3, c4, c5, c6, c7, c8, c9, c10] hS Try.underlying30 (by kernel_rfl) ?_;clear hS;(try clear ww);intro bo ww hS)|(refine w_ld rfl _ rfl (by rfl) (by first|exact rd_1 (by repeat constructor) (by first|rfl|assumption)|exact rd_w (by repeat constructor) (by rfl)|((first|refine rd_o ‹_› (by rfl) ?_|refine rd_h ‹_› (by rfl) ?_|refine rd_1o ‹_› ?_|refine rd_1h ‹_› (by first|rfl|assumption) ?_);first|exact nmn|assumption|simp)) hS ?_)|((first|refine own_box rfl _ _ rfl (by rfl) hS ?_|refine w_al rfl rfl hS ?_);clear hS;(try clear ww);intro bb ww hS)|((first|refine w_st rfl _ _ rfl (by rfl) (by rfl) (by repeat constructor) (by rfl) (by rfl) (by first|rfl|assumption) hS ?_|refine w_s1 rfl _ _ rfl (by rfl) (by repeat constructor) (by first|exact .c|exact .t rfl) (by rfl) (by repeat constructor) hS ?_);clear hS;(try clear ww);intro ww hS))
  have hc := (hS.get (atl (by exact (.next (.next (.next (.next .here))))))).cell
  refine bodyPost_ret (v := .tuple #[.agg #[.int .i64 0, .string ⟨#[]⟩, .int .i64 0, .int .i64 0, .int .i64 0, .int .i64 0, .int .i64 0, .int .i64 0, .slice none 0 0, .int .i64 0, .slice none 0 0], .int .i64 1]) (by simp [results, Try.results10, go_sem, hc]) rfl ⟨_, rfl, rep_zero m _, hS.below⟩

set_option maxHeartbeats 8000000 in
set_option maxRecDepth 100000 in
theorem limMake_bad6 (F : Fnt) (l : Int) (c : Bool) (n m : Nat) (base : Bx (n + 1)) (sb sp : Bx (n + 1))  (cs : List Value) (sx ux : Option Addr) (sc uc : Nat) (w : World) (hF : FntOk w F) (hr : Rep w (n + 1) base cs) (hs : RepL w (n + 1) sx [sb]) (hu : RepL w (n + 1) ux [sp]) (p : Int) (hx : PctOk F l p 0) (hb : validB (n + 1) base) (hw : validB (n + 1) sb) (hv : ¬ validB (n + 1) sp) : Calls Try.prog 10 #[F.val, .agg #[.int .i64 l, .bool c], .agg cs.toArray, .slice sx 1 sc, .slice ux 1 uc] w (GivesBE (m + 1) (zeroB m) 1 w) := by
  have HPc := Lib.hid (fun w' (h : Below w.heap.size w w') => style_Percent_calls F l p 0 c w' (hF.below h) hx)
  have HVb := Lib.hid (fun w' (h : Below w.heap.size w w') => box_Valid_calls (n + 1) base cs w' (hr.step h) hr.wide _ (iff_t hb))
  have a0 := arr3_0
  have a1 := arr3_1
  have a2 := arr3_2
  obtain ⟨sk, so, ss, rfl, hs1, hs2⟩ := RepL.one35 hs
  have HVs := Lib.hid (fun w' (h : Below w.heap.size w w') => box_Valid_calls (n + 1) sb ss w' (hs2.step h) hs2.wide _ (iff_t hw))
  have halls := rep_all hs2
  obtain ⟨s0, s1, s2, s3, s4, s5, s6, s7, s8, s9, s10, rfl⟩ := eleven hs2.len
  obtain ⟨uk, uo, us, rfl, hu1, hu2⟩ := RepL.one35 hu
  have HVu := Lib.hid (fun w' (h : Below w.heap.size w w') => box_Valid_calls (n + 1) sp us w' (hu2.step h) hu2.wide _ (iff_f hv))
  have hallu := rep_all hu2
  obtain ⟨u0, u1, u2, u3, u4, u5, u6, u7, u8, u9, u10, rfl⟩ := eleven hu2.len
  have hall := rep_all hr
  obtain ⟨c0, c1, c2, c3, c4, c5, c6, c7, c8, c9, c10, rfl⟩ := eleven hr.len
  clear hr hs hu hF hx hb   hv hw hs2 hu2
  go_enter Try.func10, Try.ntmps10
  have hS := own_start w
  go_wp2_with (first|(refine own_unguard (by rfl) ?_)|(go_at_call 19;refine own_calls hS (HPc.out _ hS.below) ?_;clear hS;(try clear ww);intro ww hS)|(go_at_call 20;refine own_calls hS (by first|exact HVb.out _ hS.below|exact HVs.out _ hS.below|exact HVu.out _ hS.below) ?_;clear hS;(try clear ww);intro ww hS)|(refine own_buildSlice rfl _ _ 1 _ rfl [c0, c1, c2, c3, c4, c5, c6, c7, c8, c9, c10] hS Try.underlying30 (by kernel_rfl) ?_;clear hS;(try clear ww);intro bo ww hS)|(refine w_ld rfl _ rfl (by rfl) (by first|exact rd_1 (by repeat constructor) (by first|rfl|assumption)|exact rd_w (by repeat constructor) (by rfl)|((first|refine rd_o ‹_› (by rfl) ?_|refine rd_h ‹_› (by rfl) ?_|refine rd_1o ‹_› ?_|refine rd_1h ‹_› (by first|rfl|assumption) ?_);first|exact nmn|assumption|simp)) hS ?_)|((first|refine own_box rfl _ _ rfl (by rfl) hS ?_|refine w_al rfl rfl hS ?_);clear hS;(try clear ww);intro bb ww hS)|((first|refine w_st rfl _ _ rfl (by rfl) (by rfl) (by repeat constructor) (by rfl) (by rfl) (by first|rfl|assumption) hS ?_|refine w_s1 rfl _ _ rfl (by rfl) (by repeat constructor) (by first|exact .c|exact .t rfl) (by rfl) (by repeat constructor) hS ?_);clear hS;(try clear ww);intro ww hS))
  refine wp_loop_rounds 4 ?_
  iterate 2
    rw [rounds_succ]
    go_wp2_with (first|(refine own_unguard (by rfl) ?_)|(go_at_call 19;refine own_calls hS (HPc.out _ hS.below) ?_;clear hS;(try clear ww);intro ww hS)|(go_at_call 20;refine own_calls hS (by first|exact HVb.out _ hS.below|exact HVs.out _ hS.below|exact HVu.out _ hS.below) ?_;clear hS;(try clear ww);intro ww hS)|(refine own_buildSlice rfl _ _ 1 _ rfl [c0, c1, c2, c3, c4, c5, c6, c7, c8, c9, c10] hS Try.underlying30 (by kernel_rfl) ?_;clear hS;(try clear ww);intro bo ww hS)|(refine w_ld rfl _ rfl (by rfl) (by first|exact rd_1 (by repeat constructor) (by first|rfl|assumption)|exact rd_w (by repeat constructor) (by rfl)|((first|refine rd_o ‹_› (by rfl) ?_|refine rd_h ‹_› (by rfl) ?_|refine rd_1o ‹_› ?_|refine rd_1h ‹_› (by first|rfl|assumption) ?_);first|exact nmn|assumption|simp)) hS ?_)|((first|refine own_box rfl _ _ rfl (by rfl) hS ?_|refine w_al rfl rfl hS ?_);clear hS;(try clear ww);intro bb ww hS)|((first|refine w_st rfl _ _ rfl (by rfl) (by rfl) (by repeat constructor) (by rfl) (by rfl) (by first|rfl|assumption) hS ?_|refine w_s1 rfl _ _ rfl (by rfl) (by repeat constructor) (by first|exact .c|exact .t rfl) (by rfl) (by repeat constructor) hS ?_);clear hS;(try clear ww);intro ww hS))
    refine wp_loop_rounds 4 ?_
    rw [rounds_succ]
    go_wp2_with (first|(refine own_unguard (by rfl) ?_)|(go_at_call 19;refine own_calls hS (HPc.out _ hS.below) ?_;clear hS;(try clear ww);intro ww hS)|(go_at_call 20;refine own_calls hS (by first|exact HVb.out _ hS.below|exact HVs.out _ hS.below|exact HVu.out _ hS.below) ?_;clear hS;(try clear ww);intro ww hS)|(refine own_buildSlice rfl _ _ 1 _ rfl [c0, c1, c2, c3, c4, c5, c6, c7, c8, c9, c10] hS Try.underlying30 (by kernel_rfl) ?_;clear hS;(try clear ww);intro bo ww hS)|(refine w_ld rfl _ rfl (by rfl) (by first|exact rd_1 (by repeat constructor) (by first|rfl|assumption)|exact rd_w (by repeat constructor) (by rfl)|((first|refine rd_o ‹_› (by rfl) ?_|refine rd_h ‹_› (by rfl) ?_|refine rd_1o ‹_› ?_|refine rd_1h ‹_› (by first|rfl|assumption) ?_);first|exact nmn|assumption|simp)) hS ?_)|((first|refine own_box rfl _ _ rfl (by rfl) hS ?_|refine w_al rfl rfl hS ?_);clear hS;(try clear ww);intro bb ww hS)|((first|refine w_st rfl _ _ rfl (by rfl) (by rfl) (by repeat constructor) (by rfl) (by rfl) (by first|rfl|assumption) hS ?_|refine w_s1 rfl _ _ rfl (by rfl) (by repeat constructor) (by first|exact .c|exact .t rfl) (by rfl) (by repeat constructor) hS ?_);clear hS;(try clear ww);intro ww hS))
    rw [rounds_succ]
    go_wp2_with (first|(refine own_unguard (by rfl) ?_)|(refine w_ld rfl _ rfl (by rfl) (by first|exact rd_1 (by repeat constructor) (by first|rfl|assumption)|exact rd_w (by repeat constructor) (by rfl)|((first|refine rd_o ‹_› (by rfl) ?_|refine rd_h ‹_› (by rfl) ?_|refine rd_1o ‹_› ?_|refine rd_1h ‹_› (by first|rfl|assumption) ?_);first|exact nmn|assumption|simp)) hS ?_)|((first|refine own_box rfl _ _ rfl (by rfl) hS ?_|refine w_al rfl rfl hS ?_);clear hS;(try clear ww);intro bb ww hS)|((first|refine w_st rfl _ _ rfl (by rfl) (by rfl) (by repeat constructor) (by rfl) (by rfl) (by first|rfl|assumption) hS ?_|refine w_s1 rfl _ _ rfl (by rfl) (by repeat constructor) (by first|exact .c|exact .t rfl) (by rfl) (by repeat constructor) hS ?_);clear hS;(try clear ww);intro ww hS))
  rw [rounds_succ]
  go_wp2_with (first|(refine own_unguard (by rfl) ?_)|(go_at_call 19;refine own_calls hS (HPc.out _ hS.below) ?_;clear hS;(try clear ww);intro ww hS)|(go_at_call 20;refine own_calls hS (by first|exact HVb.out _ hS.below|exact HVs.out _ hS.below|exact HVu.out _ hS.below) ?_;clear hS;(try clear ww);intro ww hS)|(refine own_buildSlice rfl _ _ 1 _ rfl [c0, c1, c2, c3, c4, c5, c6, c7, c8, c9, c10] hS Try.underlying30 (by kernel_rfl) ?_;clear hS;(try clear ww);intro bo ww hS)|(refine w_ld rfl _ rfl (by rfl) (by first|exact rd_1 (by repeat constructor) (by first|rfl|assumption)|exact rd_w (by repeat constructor) (by rfl)|((first|refine rd_o ‹_› (by rfl) ?_|refine rd_h ‹_› (by rfl) ?_|refine rd_1o ‹_› ?_|refine rd_1h ‹_› (by first|rfl|assumption) ?_);first|exact nmn|assumption|simp)) hS ?_)|((first|refine own_box rfl _ _ rfl (by rfl) hS ?_|refine w_al rfl rfl hS ?_);clear hS;(try clear ww);intro bb ww hS)|((first|refine w_st rfl _ _ rfl (by rfl) (by rfl) (by repeat constructor) (by rfl) (by rfl) (by first|rfl|assumption) hS ?_|refine w_s1 rfl _ _ rfl (by rfl) (by repeat constructor) (by first|exact .c|exact .t rfl) (by rfl) (by repeat constructor) hS ?_);clear hS;(try clear ww);intro ww hS))
  refine wp_loop_rounds 4 ?_
  rw [rounds_succ]
  go_wp2_with (first|(refine own_unguard (by rfl) ?_)|(go_at_call 19;refine own_calls hS (HPc.out _ hS.below) ?_;clear hS;(try clear ww);intro ww hS)|(go_at_call 20;refine own_calls hS (by first|exact HVb.out _ hS.below|exact HVs.out _ hS.below|exact HVu.out _ hS.below) ?_;clear hS;(try clear ww);intro ww hS)|(refine own_buildSlice rfl _ _ 1 _ rfl [c0, c1, c2, c3, c4, c5, c6, c7, c8, c9, c10] hS Try.underlying30 (by kernel_rfl) ?_;clear hS;(try clear ww);intro bo ww hS)|(refine w_ld rfl _ rfl (by rfl) (by first|exact rd_1 (by repeat constructor) (by first|rfl|assumption)|exact rd_w (by repeat constructor) (by rfl)|((first|refine rd_o ‹_› (by rfl) ?_|refine rd_h ‹_› (by rfl) ?_|refine rd_1o ‹_› ?_|refine rd_1h ‹_› (by first|rfl|assumption) ?_);first|exact nmn|assumption|simp)) hS ?_)|((first|refine own_box rfl _ _ rfl (by rfl) hS ?_|refine w_al rfl rfl hS ?_);clear hS;(try clear ww);intro bb ww hS)|((first|refine w_st rfl _ _ rfl (by rfl) (by rfl) (by repeat constructor) (by rfl) (by rfl) (by first|rfl|assumption) hS ?_|refine w_s1 rfl _ _ rfl (by rfl) (by repeat constructor) (by first|exact .c|exact .t rfl) (by rfl) (by repeat constructor) hS ?_);clear hS;(try clear ww);intro ww hS))
  have hc := (hS.get (atl (by exact (.next (.next (.next (.next (.next .here)))))))).cell
  refine bodyPost_ret (v := .tuple #[.agg #[.int .i64 0, .string ⟨#[]⟩, .int .i64 0, .int .i64 0, .int .i64 0, .int .i64 0, .int .i64 0, .int .i64 0, .slice none 0 0, .int .i64 0, .slice none 0 0], .int .i64 1]) (by simp [results, Try.results10, go_sem, hc]) rfl ⟨_, rfl, rep_zero m _, hS.below⟩

theorem limMake_bad (F : Fnt) (l : Int) (c : Bool) (n m : Nat) (base : Bx (n + 1)) (subs sups : List (Bx (n + 1))) (cs : List Value) (sx ux : Option Addr) (sc uc : Nat) (w : World) (hF : FntOk w F) (hr : Rep w (n + 1) base cs) (hs : RepL w (n + 1) sx subs) (hu : RepL w (n + 1) ux sups) (hb : ¬ ScrOk F l n base subs sups) : Calls Try.prog 10 #[F.val, .agg #[.int .i64 l, .bool c], .agg cs.toArray, .slice sx subs.length sc, .slice ux sups.length uc] w (GivesBE (m + 1) (zeroB m) 1 w) := by
  cases hl : lvlOk l
  · exact limMake_bad0 F l c n m base subs sups cs sx ux sc uc w hF hr hs hu ⟨fun h => absurd (hl.symm.trans h.1) (by simp), fun _ => ⟨rfl, rfl⟩⟩
  · by_cases hv : ValidF F
    · have hx : PctOk F l (sizeOf' F l) 0 := ⟨fun _ => ⟨rfl, rfl⟩, fun h => by
        rcases h with h | h
        · rw [hl] at h; cases h
        · exact absurd hv h⟩
      by_cases h1 : subs.length ≤ 1
      · by_cases h2 : sups.length ≤ 1
        · by_cases h0 : validB (n + 1) base
          · rcases subs with _ | ⟨sb, _ | ⟨x, subs⟩⟩
            · rcases sups with _ | ⟨sp, _ | ⟨y, sups⟩⟩
              · exact absurd ⟨hv, hl, h0, ⟨h1, fun b hb => by cases hb⟩, ⟨h2, fun b hb => by cases hb⟩⟩ hb
              · by_cases h4 : validB (n + 1) sp
                · exact absurd ⟨hv, hl, h0, ⟨h1, fun b hb => by cases hb⟩, ⟨h2, fun b hb => by obtain rfl := List.mem_singleton.1 hb; exact h4⟩⟩ hb
                · exact limMake_bad5 F l c n m base sp cs sx ux sc uc w hF hr hs hu _ hx h0 h4
              · simp at h2
            · by_cases h3 : validB (n + 1) sb
              · rcases sups with _ | ⟨sp, _ | ⟨y, sups⟩⟩
                · exact absurd ⟨hv, hl, h0, ⟨h1, fun b hb => by obtain rfl := List.mem_singleton.1 hb; exact h3⟩, ⟨h2, fun b hb => by cases hb⟩⟩ hb
                · by_cases h4 : validB (n + 1) sp
                  · exact absurd ⟨hv, hl, h0, ⟨h1, fun b hb => by obtain rfl := List.mem_singleton.1 hb; exact h3⟩, ⟨h2, fun b hb => by obtain rfl := List.mem_singleton.1 hb; exact h4⟩⟩ hb
                  · exact limMake_bad6 F l c n m base sb sp cs sx ux sc uc w hF hr hs hu _ hx h0 h3 h4
                · simp at h2
              · exact limMake_bad4 F l c n m base sb sups cs sx ux sc uc w hF hr hs hu _ hx h2 h0 h3
            · simp at h1
          · exact limMake_bad3 F l c n m base subs sups cs sx ux sc uc w hF hr hs hu _ hx h1 h2 h0
        · exact limMake_bad2 F l c n m base subs sups cs sx ux sc uc w hF hr hs hu _ hx h1 (by omega)
      · exact limMake_bad1 F l c n m base subs sups cs sx ux sc uc w hF hr hs hu _ hx (by omega)
    · exact limMake_bad0 F l c n m base subs sups cs sx ux sc uc w hF hr hs hu ⟨fun h => absurd h.2 hv, fun _ => ⟨rfl, rfl⟩⟩

end Go.Proofs.Ytdbcdjiclkmknaa
