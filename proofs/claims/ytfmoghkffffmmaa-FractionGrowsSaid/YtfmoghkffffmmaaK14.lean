/- Texts Mad, Awf, Rgp, Lwk, Anm. -/
import Derived.Test.YtfmoghkffffmmaaK12
import Derived.Test.YtfmoghkffffmmaaK13
import Derived.Test.YtfmoghkffffmmaaK11
namespace Go.Proofs.Ytfmoghkffffmmaa
open Go.RowKit

attribute [local irreducible] wpQuiet wpG wpP wpK wpList Code.wp Calls

/-- What tame says of a case. -/
def tameB (F : Fnt) (n : Nat) (num den : Bx (n + 1)) : Bool := fewB F && (decide (bCount (n + 1) num ≤ 200) && decide (bCount (n + 1) den ≤ 200))
/-- The call gives a box, and says whether there is one. -/
def GivesMade (n : Nat) (b : Bx n) (ok : Bool) (w : World) (e : Ending) (w' : World) : Prop := ∃ cs, e = .returned (.tuple #[.agg cs.toArray, .bool ok]) ∧ Rep w' n b cs ∧ Below w.heap.size w w'
theorem off_made {w w0 ww : World} {b : Nat} {z : List Value} (hB0 : Below w.heap.size w w0) (hS : Own [] w0 [(b, z)] ww) : ∀ k, (k < w.heap.size ∨ ww.heap.size ≤ k) → k ∉ [(b, z)].map (·.1) := fun k hk hm => by
  obtain rfl : k = b := by simpa using hm
  have h1 := (hS.get at0).lt
  have h2 := hB0.size
  rcases hS.geAt at0 with h3 | h3
  · cases h3
  · omega
theorem Own.rebaseN {D : List Nat} {W w : World} {L : List (Nat × List Value)} (hS : Own D W L w) : ∃ DD, Hid (DD = L.map (·.1)) ∧ Own DD w L w := ⟨_, rfl, hS.rebase⟩
/-- The cells of a list of boxes. -/
theorem list_out {w : World} {n : Nat} {bw bh bd : Int} {kids : List (Bx n)} {cs : List Value} (h : Rep w (n + 1) (listB n bw bh bd kids) cs) : ∃ kx kc sx sc, cs = [.int .i64 3, .string ⟨#[]⟩, .int .i64 0, .int .i64 bw, .int .i64 bh, .int .i64 bd, .int .i64 0, .int .i64 0, .slice kx (kids.length : Nat) kc, .int .i64 0, .slice sx 0 sc] := by
  obtain ⟨kx, kc, sx, sc, rfl, _⟩ := rep_out h
  exact ⟨kx, kc, sx, sc, rfl⟩
theorem zero_out {w : World} {m : Nat} {cs : List Value} (h : Rep w (m + 1) (zeroB m) cs) : ∃ kx kc sx sc, cs = [.int .i64 0, .string ⟨#[]⟩, .int .i64 0, .int .i64 0, .int .i64 0, .int .i64 0, .int .i64 0, .int .i64 0, .slice kx 0 kc, .int .i64 0, .slice sx 0 sc] := by
  obtain ⟨kx, kc, sx, sc, rfl, _⟩ := rep_out h
  exact ⟨kx, kc, sx, sc, rfl⟩

set_option maxHeartbeats 8000000 in
set_option maxRecDepth 100000 in
theorem made32_no0 (F : Fnt) (l : Int) (c : Bool) (n : Nat) (num den : Bx (n + 1)) (cs ds : List Value) (w : World) (hF : FntOk w F) (hr : Rep w (n + 1) num cs) (hs : Rep w (n + 1) den ds) (m : Nat) (ht : tameB F n num den = false) : Calls Try.prog 14 #[.agg (caseL F l c cs ds).toArray] w (GivesMade (m + 1) (zeroB m) false w) := by
  have HT := Lib.hid (fun w' (h : Below w.heap.size w w') => tame32_calls F l c n num den cs ds w' (hF.below h) (hr.step h) (hs.step h) false ht.symm)
  have h11 := hr.len
  have h12 := hs.len
  obtain ⟨c0, c1, c2, c3, c4, c5, c6, c7, c8, c9, c10, rfl⟩ := eleven h11
  obtain ⟨d0, d1, d2, d3, d4, d5, d6, d7, d8, d9, d10, rfl⟩ := eleven h12
  clear hF hr hs h11 h12 ht  
  go_enter Try.func14, Try.ntmps14
  have hS := own_start w
  go_wp2_with (first | (refine own_unguard (by rfl) ?_) | (refine own_box rfl _ _ rfl rfl hS ?_; clear hS; intro kb w0 hS0; have hB0 := hS0.below; have hrC := has_range (hS0.get at0); have hrF : w0.rangeAt kb 0 F.cells := fun j v hj => hrC j v (case_f (F := F) (l := l) (c := c) (cs := [c0, c1, c2, c3, c4, c5, c6, c7, c8, c9, c10]) (ds := [d0, d1, d2, d3, d4, d5, d6, d7, d8, d9, d10]) hj); have hrS : w0.rangeAt kb 22 [.int .i64 l, .bool c] := fun j v hj => (case_off hrC (case_s (F := F) (l := l) (c := c) (cs := [c0, c1, c2, c3, c4, c5, c6, c7, c8, c9, c10]) (ds := [d0, d1, d2, d3, d4, d5, d6, d7, d8, d9, d10]) hj)); have hrN : w0.rangeAt kb 24 [c0, c1, c2, c3, c4, c5, c6, c7, c8, c9, c10] := fun j v hj => (case_off hrC (case_n (F := F) (l := l) (c := c) (ds := [d0, d1, d2, d3, d4, d5, d6, d7, d8, d9, d10]) hj)); have hrD : w0.rangeAt kb 35 [d0, d1, d2, d3, d4, d5, d6, d7, d8, d9, d10] := fun j v hj => (case_off hrC (case_d (F := F) (l := l) (c := c) hj)); have hS := own_start w0; clear hS0) | (refine own_load_old rfl _ _ rfl rfl hS hrC List.not_mem_nil rt_case ?_) | (refine own_load_old rfl _ _ rfl rfl hS hrF List.not_mem_nil rt_font ?_) | (refine own_load_old rfl _ _ rfl rfl hS hrS List.not_mem_nil rt_style ?_) | (refine own_load_old rfl _ _ rfl rfl hS hrN List.not_mem_nil rt_box ?_) | (refine own_load_old rfl _ _ rfl rfl hS hrD List.not_mem_nil rt_box ?_) | (go_at_call 10; refine own_calls hS (HT.out _ (bthen hB0 hS.below)) ?_; clear hS; (try clear ww); intro ww hS) | (refine w_ld rfl _ rfl (by rfl) (by first | exact rd_1 (by repeat constructor) (by first | rfl | assumption) | exact rd_w (by repeat constructor) (by rfl) | exact rd_o (by assumption) (by rfl) (by first | exact nmn | assumption | simp) | exact rd_h (by assumption) (by rfl) (by first | exact nmn | assumption | simp) | exact rd_1o (by assumption) (by first | exact nmn | assumption | simp) | exact rd_1h (by assumption) (by first | rfl | assumption) (by first | exact nmn | assumption | simp)) hS ?_) | (refine own_box rfl _ _ rfl (by rfl) hS ?_; clear hS; (try clear ww); intro bb ww hS) | (refine w_al rfl rfl hS ?_; clear hS; (try clear ww); intro bb ww hS) | (refine w_st rfl _ _ rfl (by rfl) (by rfl) (by repeat constructor) (by rfl) (by rfl) (by first | rfl | assumption) hS ?_; clear hS; (try clear ww); intro ww hS) | (refine w_s1 rfl _ _ rfl (by rfl) (by repeat constructor) (by first | exact .c | exact .t rfl) (by rfl) (by repeat constructor) hS ?_; clear hS; (try clear ww); intro ww hS))
  have hc := (hS.get at0).cell
  refine bodyPost_ret (v := .tuple #[.agg #[.int .i64 0, .string ⟨#[]⟩, .int .i64 0, .int .i64 0, .int .i64 0, .int .i64 0, .int .i64 0, .int .i64 0, .slice none 0 0, .int .i64 0, .slice none 0 0], .bool false]) (by simp [results, Try.results14, go_sem, hc]) rfl ⟨_, rfl, rep_zero m _, bthen hB0 hS.below⟩

set_option maxHeartbeats 8000000 in
set_option maxRecDepth 100000 in
theorem made32_no1 (F : Fnt) (l : Int) (c : Bool) (n : Nat) (num den : Bx (n + 1)) (cs ds : List Value) (w : World) (hF : FntOk w F) (hr : Rep w (n + 1) num cs) (hs : Rep w (n + 1) den ds) (m : Nat) (ht : tameB F n num den = true) (m1 : modB n num = false) : Calls Try.prog 14 #[.agg (caseL F l c cs ds).toArray] w (GivesMade (m + 1) (zeroB m) false w) := by
  have HT := Lib.hid (fun w' (h : Below w.heap.size w w') => tame32_calls F l c n num den cs ds w' (hF.below h) (hr.step h) (hs.step h) true ht.symm)
  have HN := Lib.hid (fun w' (h : Below w.heap.size w w') => ref32_Modest_calls n num cs w' (hr.step h) _ m1.symm)
  have h11 := hr.len
  have h12 := hs.len
  obtain ⟨c0, c1, c2, c3, c4, c5, c6, c7, c8, c9, c10, rfl⟩ := eleven h11
  obtain ⟨d0, d1, d2, d3, d4, d5, d6, d7, d8, d9, d10, rfl⟩ := eleven h12
  clear hF hr hs h11 h12 ht m1 
  go_enter Try.func14, Try.ntmps14
  have hS := own_start w
  go_wp2_with (first | (refine own_unguard (by rfl) ?_) | (refine own_box rfl _ _ rfl rfl hS ?_; clear hS; intro kb w0 hS0; have hB0 := hS0.below; have hrC := has_range (hS0.get at0); have hrF : w0.rangeAt kb 0 F.cells := fun j v hj => hrC j v (case_f (F := F) (l := l) (c := c) (cs := [c0, c1, c2, c3, c4, c5, c6, c7, c8, c9, c10]) (ds := [d0, d1, d2, d3, d4, d5, d6, d7, d8, d9, d10]) hj); have hrS : w0.rangeAt kb 22 [.int .i64 l, .bool c] := fun j v hj => (case_off hrC (case_s (F := F) (l := l) (c := c) (cs := [c0, c1, c2, c3, c4, c5, c6, c7, c8, c9, c10]) (ds := [d0, d1, d2, d3, d4, d5, d6, d7, d8, d9, d10]) hj)); have hrN : w0.rangeAt kb 24 [c0, c1, c2, c3, c4, c5, c6, c7, c8, c9, c10] := fun j v hj => (case_off hrC (case_n (F := F) (l := l) (c := c) (ds := [d0, d1, d2, d3, d4, d5, d6, d7, d8, d9, d10]) hj)); have hrD : w0.rangeAt kb 35 [d0, d1, d2, d3, d4, d5, d6, d7, d8, d9, d10] := fun j v hj => (case_off hrC (case_d (F := F) (l := l) (c := c) hj)); have hS := own_start w0; clear hS0) | (refine own_load_old rfl _ _ rfl rfl hS hrC List.not_mem_nil rt_case ?_) | (refine own_load_old rfl _ _ rfl rfl hS hrF List.not_mem_nil rt_font ?_) | (refine own_load_old rfl _ _ rfl rfl hS hrS List.not_mem_nil rt_style ?_) | (refine own_load_old rfl _ _ rfl rfl hS hrN List.not_mem_nil rt_box ?_) | (refine own_load_old rfl _ _ rfl rfl hS hrD List.not_mem_nil rt_box ?_) | (go_at_call 10; refine own_calls hS (HT.out _ (bthen hB0 hS.below)) ?_; clear hS; (try clear ww); intro ww hS) | (go_at_call 34; refine own_calls hS (by first | exact HN.out _ (bthen hB0 hS.below)) ?_; clear hS; (try clear ww); intro ww hS) | (refine w_ld rfl _ rfl (by rfl) (by first | exact rd_1 (by repeat constructor) (by first | rfl | assumption) | exact rd_w (by repeat constructor) (by rfl) | exact rd_o (by assumption) (by rfl) (by first | exact nmn | assumption | simp) | exact rd_h (by assumption) (by rfl) (by first | exact nmn | assumption | simp) | exact rd_1o (by assumption) (by first | exact nmn | assumption | simp) | exact rd_1h (by assumption) (by first | rfl | assumption) (by first | exact nmn | assumption | simp)) hS ?_) | (refine own_box rfl _ _ rfl (by rfl) hS ?_; clear hS; (try clear ww); intro bb ww hS) | (refine w_al rfl rfl hS ?_; clear hS; (try clear ww); intro bb ww hS) | (refine w_st rfl _ _ rfl (by rfl) (by rfl) (by repeat constructor) (by rfl) (by rfl) (by first | rfl | assumption) hS ?_; clear hS; (try clear ww); intro ww hS) | (refine w_s1 rfl _ _ rfl (by rfl) (by repeat constructor) (by first | exact .c | exact .t rfl) (by rfl) (by repeat constructor) hS ?_; clear hS; (try clear ww); intro ww hS))
  have hc := (hS.get at0).cell
  refine bodyPost_ret (v := .tuple #[.agg #[.int .i64 0, .string ⟨#[]⟩, .int .i64 0, .int .i64 0, .int .i64 0, .int .i64 0, .int .i64 0, .int .i64 0, .slice none 0 0, .int .i64 0, .slice none 0 0], .bool false]) (by simp [results, Try.results14, go_sem, hc]) rfl ⟨_, rfl, rep_zero m _, bthen hB0 hS.below⟩

set_option maxHeartbeats 8000000 in
set_option maxRecDepth 100000 in
theorem made32_no2 (F : Fnt) (l : Int) (c : Bool) (n : Nat) (num den : Bx (n + 1)) (cs ds : List Value) (w : World) (hF : FntOk w F) (hr : Rep w (n + 1) num cs) (hs : Rep w (n + 1) den ds) (m : Nat) (ht : tameB F n num den = true) (m1 : modB n num = true) (m2 : modB n den = false) : Calls Try.prog 14 #[.agg (caseL F l c cs ds).toArray] w (GivesMade (m + 1) (zeroB m) false w) := by
  have HT := Lib.hid (fun w' (h : Below w.heap.size w w') => tame32_calls F l c n num den cs ds w' (hF.below h) (hr.step h) (hs.step h) true ht.symm)
  have HN := Lib.hid (fun w' (h : Below w.heap.size w w') => ref32_Modest_calls n num cs w' (hr.step h) _ m1.symm)
  have HD := Lib.hid (fun w' (h : Below w.heap.size w w') => ref32_Modest_calls n den ds w' (hs.step h) _ m2.symm)
  have h11 := hr.len
  have h12 := hs.len
  obtain ⟨c0, c1, c2, c3, c4, c5, c6, c7, c8, c9, c10, rfl⟩ := eleven h11
  obtain ⟨d0, d1, d2, d3, d4, d5, d6, d7, d8, d9, d10, rfl⟩ := eleven h12
  clear hF hr hs h11 h12 ht m1 m2
  go_enter Try.func14, Try.ntmps14
  have hS := own_start w
  go_wp2_with (first | (refine own_unguard (by rfl) ?_) | (refine own_box rfl _ _ rfl rfl hS ?_; clear hS; intro kb w0 hS0; have hB0 := hS0.below; have hrC := has_range (hS0.get at0); have hrF : w0.rangeAt kb 0 F.cells := fun j v hj => hrC j v (case_f (F := F) (l := l) (c := c) (cs := [c0, c1, c2, c3, c4, c5, c6, c7, c8, c9, c10]) (ds := [d0, d1, d2, d3, d4, d5, d6, d7, d8, d9, d10]) hj); have hrS : w0.rangeAt kb 22 [.int .i64 l, .bool c] := fun j v hj => (case_off hrC (case_s (F := F) (l := l) (c := c) (cs := [c0, c1, c2, c3, c4, c5, c6, c7, c8, c9, c10]) (ds := [d0, d1, d2, d3, d4, d5, d6, d7, d8, d9, d10]) hj)); have hrN : w0.rangeAt kb 24 [c0, c1, c2, c3, c4, c5, c6, c7, c8, c9, c10] := fun j v hj => (case_off hrC (case_n (F := F) (l := l) (c := c) (ds := [d0, d1, d2, d3, d4, d5, d6, d7, d8, d9, d10]) hj)); have hrD : w0.rangeAt kb 35 [d0, d1, d2, d3, d4, d5, d6, d7, d8, d9, d10] := fun j v hj => (case_off hrC (case_d (F := F) (l := l) (c := c) hj)); have hS := own_start w0; clear hS0) | (refine own_load_old rfl _ _ rfl rfl hS hrC List.not_mem_nil rt_case ?_) | (refine own_load_old rfl _ _ rfl rfl hS hrF List.not_mem_nil rt_font ?_) | (refine own_load_old rfl _ _ rfl rfl hS hrS List.not_mem_nil rt_style ?_) | (refine own_load_old rfl _ _ rfl rfl hS hrN List.not_mem_nil rt_box ?_) | (refine own_load_old rfl _ _ rfl rfl hS hrD List.not_mem_nil rt_box ?_) | (go_at_call 10; refine own_calls hS (HT.out _ (bthen hB0 hS.below)) ?_; clear hS; (try clear ww); intro ww hS) | (go_at_call 34; refine own_calls hS (by first | exact HN.out _ (bthen hB0 hS.below) | exact HD.out _ (bthen hB0 hS.below)) ?_; clear hS; (try clear ww); intro ww hS) | (refine w_ld rfl _ rfl (by rfl) (by first | exact rd_1 (by repeat constructor) (by first | rfl | assumption) | exact rd_w (by repeat constructor) (by rfl) | exact rd_o (by assumption) (by rfl) (by first | exact nmn | assumption | simp) | exact rd_h (by assumption) (by rfl) (by first | exact nmn | assumption | simp) | exact rd_1o (by assumption) (by first | exact nmn | assumption | simp) | exact rd_1h (by assumption) (by first | rfl | assumption) (by first | exact nmn | assumption | simp)) hS ?_) | (refine own_box rfl _ _ rfl (by rfl) hS ?_; clear hS; (try clear ww); intro bb ww hS) | (refine w_al rfl rfl hS ?_; clear hS; (try clear ww); intro bb ww hS) | (refine w_st rfl _ _ rfl (by rfl) (by rfl) (by repeat constructor) (by rfl) (by rfl) (by first | rfl | assumption) hS ?_; clear hS; (try clear ww); intro ww hS) | (refine w_s1 rfl _ _ rfl (by rfl) (by repeat constructor) (by first | exact .c | exact .t rfl) (by rfl) (by repeat constructor) hS ?_; clear hS; (try clear ww); intro ww hS))
  have hc := (hS.get at0).cell
  refine bodyPost_ret (v := .tuple #[.agg #[.int .i64 0, .string ⟨#[]⟩, .int .i64 0, .int .i64 0, .int .i64 0, .int .i64 0, .int .i64 0, .int .i64 0, .slice none 0 0, .int .i64 0, .slice none 0 0], .bool false]) (by simp [results, Try.results14, go_sem, hc]) rfl ⟨_, rfl, rep_zero m _, bthen hB0 hS.below⟩

set_option maxHeartbeats 8000000 in
set_option maxRecDepth 100000 in
theorem made32_yes (F : Fnt) (l : Int) (c : Bool) (n : Nat) (num den : Bx (n + 1)) (cs ds : List Value) (w : World) (hF : FntOk w F) (hr : Rep w (n + 1) num cs) (hs : Rep w (n + 1) den ds) (ht : tameB F n num den = true) (m1 : modB n num = true) (m2 : modB n den = true) (ho : FracOk F l n num den) (hvR : validB (n + 2) (fracB F l n num den)) : Calls Try.prog 14 #[.agg (caseL F l c cs ds).toArray] w (GivesMade (n + 2) (fracB F l n num den) true w) := by
  have HT := Lib.hid (fun w' (h : Below w.heap.size w w') => tame32_calls F l c n num den cs ds w' (hF.below h) (hr.step h) (hs.step h) true ht.symm)
  have HN := Lib.hid (fun w' (h : Below w.heap.size w w') => ref32_Modest_calls n num cs w' (hr.step h) _ m1.symm)
  have HD := Lib.hid (fun w' (h : Below w.heap.size w w') => ref32_Modest_calls n den ds w' (hs.step h) _ m2.symm)
  have HM := Lib.hid (fun w' (h : Below w.heap.size w w') => fracMake_okP (fun k => k < w.heap.size) F l c n num den cs ds w' (hF.below h) ho.2.1 ho.1 (fun k hk => Nat.lt_of_lt_of_le hk h.size) (repP_step (repP_old hr) h) (repP_step (repP_old hs) h) ho.2.2.1 ho.2.2.2 hvR)
  unfold fracB at HM ⊢
  generalize hK : [atXY (n + 1) num (hlf (fracW num.1.w den.1.w - num.1.w)) (fracUpY F l num.1.d), atXY (n + 1) (ruleB n (fracW num.1.w den.1.w) (par F l F.rule) 0) 0 (fracY F l), atXY (n + 1) den (hlf (fracW num.1.w den.1.w - den.1.w)) (-(fracDnY F l den.1.h))] = kids at HM ⊢
  have hkl : kids.length = 3 := by rw [← hK]; rfl
  generalize fracW num.1.w den.1.w = bw at HM ⊢
  generalize max (fracUpY F l num.1.d + num.1.h) (fracY F l + par F l F.rule) = bh at HM ⊢
  generalize max (den.1.d + fracDnY F l den.1.h) (-fracY F l) = bd at HM ⊢
  have h11 := hr.len
  have h12 := hs.len
  obtain ⟨c0, c1, c2, c3, c4, c5, c6, c7, c8, c9, c10, rfl⟩ := eleven h11
  obtain ⟨d0, d1, d2, d3, d4, d5, d6, d7, d8, d9, d10, rfl⟩ := eleven h12
  clear hF hr hs h11 h12 ht m1 m2 ho hvR hK
  go_enter Try.func14, Try.ntmps14
  have hS := own_start w
  go_upto_region 4 with (first | (refine own_unguard (by rfl) ?_) | (refine own_box rfl _ _ rfl rfl hS ?_; clear hS; intro kb w0 hS0; have hB0 := hS0.below; have hrC := has_range (hS0.get at0); have hrF : w0.rangeAt kb 0 F.cells := fun j v hj => hrC j v (case_f (F := F) (l := l) (c := c) (cs := [c0, c1, c2, c3, c4, c5, c6, c7, c8, c9, c10]) (ds := [d0, d1, d2, d3, d4, d5, d6, d7, d8, d9, d10]) hj); have hrS : w0.rangeAt kb 22 [.int .i64 l, .bool c] := fun j v hj => (case_off hrC (case_s (F := F) (l := l) (c := c) (cs := [c0, c1, c2, c3, c4, c5, c6, c7, c8, c9, c10]) (ds := [d0, d1, d2, d3, d4, d5, d6, d7, d8, d9, d10]) hj)); have hrN : w0.rangeAt kb 24 [c0, c1, c2, c3, c4, c5, c6, c7, c8, c9, c10] := fun j v hj => (case_off hrC (case_n (F := F) (l := l) (c := c) (ds := [d0, d1, d2, d3, d4, d5, d6, d7, d8, d9, d10]) hj)); have hrD : w0.rangeAt kb 35 [d0, d1, d2, d3, d4, d5, d6, d7, d8, d9, d10] := fun j v hj => (case_off hrC (case_d (F := F) (l := l) (c := c) hj)); have hS := own_start w0; clear hS0) | (refine own_load_old rfl _ _ rfl rfl hS hrC List.not_mem_nil rt_case ?_) | (refine own_load_old rfl _ _ rfl rfl hS hrF List.not_mem_nil rt_font ?_) | (refine own_load_old rfl _ _ rfl rfl hS hrS List.not_mem_nil rt_style ?_) | (refine own_load_old rfl _ _ rfl rfl hS hrN List.not_mem_nil rt_box ?_) | (refine own_load_old rfl _ _ rfl rfl hS hrD List.not_mem_nil rt_box ?_) | (go_at_call 10; refine own_calls hS (HT.out _ (bthen hB0 hS.below)) ?_; clear hS; (try clear ww); intro ww hS) | (go_at_call 34; refine own_calls hS (by first | exact HN.out _ (bthen hB0 hS.below) | exact HD.out _ (bthen hB0 hS.below)) ?_; clear hS; (try clear ww); intro ww hS) | (go_at_call 11; refine Calls.mono (HM.out _ (bthen hB0 hS.below)) ?_; rintro e w1 ⟨cs1, rfl, hR1, hb1⟩; have hS1 := hS.step hb1; obtain ⟨b2, Hb2⟩ : ∃ b, Hid (b = bb) := ⟨_, rfl⟩; obtain rfl := Hb2.out; clear Hb2; have HO := Lib.hid (off_made hB0 hS); have HS1 := Lib.hid hS1; have HR := Lib.hid hR1; obtain ⟨kx, kc, sx, sc, rfl⟩ := list_out hR1.rep; rw [hkl] at *; clear hR1 hS hb1; obtain ⟨DD, HDD, hS⟩ := hS1.rebaseN; clear hS1) | (refine w_ld rfl _ rfl (by rfl) (by first | exact rd_1 (by repeat constructor) (by first | rfl | assumption) | exact rd_w (by repeat constructor) (by rfl) | exact rd_o (by assumption) (by rfl) (by first | exact nmn | assumption | simp) | exact rd_h (by assumption) (by rfl) (by first | exact nmn | assumption | simp) | exact rd_1o (by assumption) (by first | exact nmn | assumption | simp) | exact rd_1h (by assumption) (by first | rfl | assumption) (by first | exact nmn | assumption | simp)) hS ?_) | (refine own_box rfl _ _ rfl (by rfl) hS ?_; clear hS; (try clear ww); intro bb ww hS) | (refine w_al rfl rfl hS ?_; clear hS; (try clear ww); intro bb ww hS) | (refine w_st rfl _ _ rfl (by rfl) (by rfl) (by repeat constructor) (by rfl) (by rfl) (by first | rfl | assumption) hS ?_; clear hS; (try clear ww); intro ww hS) | (refine w_s1 rfl _ _ rfl (by rfl) (by repeat constructor) (by first | exact .c | exact .t rfl) (by rfl) (by repeat constructor) hS ?_; clear hS; (try clear ww); intro ww hS))
  (try simp only [Act.put]); (try simp only [List.setIfInBounds_toArray]); (try simp only [List.set_cons_succ]); (try simp only [List.set_cons_zero])
  have hne := hS.ne01
  refine own_anyT hS [b2] [9] 11 (by kernel_rfl) (by kernel_rfl) ?_
  clear hS
  intro hcl ww hS
  refine own_batchT hS [(_, _)] (List.Sublist.cons_cons _ (List.nil_sublist _)) (fun x hx => by obtain rfl := List.mem_singleton.1 hx; simpa using hne) [0, 1, 2, 3, 4, 5, 6, 7, 8] 2 rfl hcl (by kernel_rfl) ?_
  (try simp only); repeat (first | (simp only [List.filterMap_cons]) | (simp only [List.filterMap_nil]) | (simp only [List.getElem?_toArray]) | (simp only [List.getElem?_cons_succ]) | (simp only [List.getElem?_cons_zero]) | (simp only [List.reverse_cons]) | (simp only [List.reverse_nil]) | (simp only [List.nil_append]) | (simp only [List.cons_append]))
  repeat (first
      | (first | (refine g_plain rfl ?_) | (refine g_yes rfl rfl rfl (by simp only [List.getElem?_toArray, List.getElem?_cons_succ, List.getElem?_cons_zero]; rfl) (by with_reducible constructor) ?_)
         apply Exists.intro; refine ⟨?_, ?_⟩
         focus (intro wq hq0; (first | have hq : Own _ _ _ wq := hq0 | have hq : Own _ _ _ wq := hq0.1 | skip); first | ((with_reducible show givesAt _ ({ dst := _, op := Op.load _ _, type := _, pos := _, after := _, guard := _ } : Oper) _ _ _); first | (exact givesAt_rd rfl (by rfl) (by first | exact rd_1 (by repeat constructor) (by first | rfl | assumption) | exact rd_w (by repeat constructor) (by rfl) | exact rd_o (by assumption) (by rfl) (by first | exact nmn | assumption | simp) | exact rd_h (by assumption) (by rfl) (by first | exact nmn | assumption | simp) | exact rd_1o (by assumption) (by first | exact nmn | assumption | simp) | exact rd_1h (by assumption) (by first | rfl | assumption) (by first | exact nmn | assumption | simp)) hq)) | (go_simp; first | (with_reducible rfl)))
         simp only [Act.put, List.setIfInBounds_toArray]; (try simp only [List.set_cons_succ]); (try simp only [List.set_cons_zero]))
      | (refine g_no rfl rfl rfl (by simp only [List.getElem?_toArray, List.getElem?_cons_succ, List.getElem?_cons_zero]; rfl) (by with_reducible constructor) ?_; simp only [Act.put, List.setIfInBounds_toArray]; (try simp only [List.set_cons_succ]); (try simp only [List.set_cons_zero])))
  refine g_nil ?_
  clear hS hcl
  intro hcl ww hS
  (try simp only [Act.put]); (try simp only [List.setIfInBounds_toArray]); (try simp only [List.set_cons_succ]); (try simp only [List.set_cons_zero])
  refine own_lateT (K := [(b2, _)]) (L := [(_, _)]) (hS.perm (List.Perm.swap _ _ _)) (fun x hx => by obtain rfl := List.mem_singleton.1 hx; simp) 9 hcl (by simp only [List.getElem?_toArray, List.getElem?_cons_succ, List.getElem?_cons_zero]; rfl) (by kernel_rfl) ?_
  clear hS
  intro hS
  (refine w_st rfl _ _ rfl (by rfl) (by rfl) (by repeat constructor) (by rfl) (by rfl) (by first | rfl | assumption) hS ?_; clear hS; intro ww hS)
  refine wpList_nil ⟨rfl, _, hS, ?_⟩
  clear hS hcl
  intro hcl wf hS
  simp only [List.cons_append, List.nil_append] at hS
  (try simp only [Act.put]); (try simp only [List.setIfInBounds_toArray]); (try simp only [List.set_cons_succ]); (try simp only [List.set_cons_zero])
  refine own_batchT hS [] (List.nil_sublist _) (fun x hx => by cases hx) [10] 0 rfl hcl (by kernel_rfl) ?_
  (try simp only); repeat (first | (simp only [List.filterMap_cons]) | (simp only [List.filterMap_nil]) | (simp only [List.getElem?_toArray]) | (simp only [List.getElem?_cons_succ]) | (simp only [List.getElem?_cons_zero]) | (simp only [List.reverse_cons]) | (simp only [List.reverse_nil]) | (simp only [List.nil_append]) | (simp only [List.cons_append]))
  repeat (first
      | (first | (refine g_plain rfl ?_) | (refine g_yes rfl rfl rfl (by simp only [List.getElem?_toArray, List.getElem?_cons_succ, List.getElem?_cons_zero]; rfl) (by with_reducible constructor) ?_)
         apply Exists.intro; refine ⟨?_, ?_⟩
         focus (intro wq hq0; (first | have hq : Own _ _ _ wq := hq0 | have hq : Own _ _ _ wq := hq0.1 | skip); first | ((with_reducible show givesAt _ ({ dst := _, op := Op.load _ _, type := _, pos := _, after := _, guard := _ } : Oper) _ _ _); first | (exact givesAt_rd rfl (by rfl) (by first | exact rd_1 (by repeat constructor) (by first | rfl | assumption) | exact rd_w (by repeat constructor) (by rfl) | exact rd_o (by assumption) (by rfl) (by first | exact nmn | assumption | simp) | exact rd_h (by assumption) (by rfl) (by first | exact nmn | assumption | simp) | exact rd_1o (by assumption) (by first | exact nmn | assumption | simp) | exact rd_1h (by assumption) (by first | rfl | assumption) (by first | exact nmn | assumption | simp)) hq)) | (go_simp; first | (with_reducible rfl)))
         simp only [Act.put, List.setIfInBounds_toArray]; (try simp only [List.set_cons_succ]); (try simp only [List.set_cons_zero]))
      | (refine g_no rfl rfl rfl (by simp only [List.getElem?_toArray, List.getElem?_cons_succ, List.getElem?_cons_zero]; rfl) (by with_reducible constructor) ?_; simp only [Act.put, List.setIfInBounds_toArray]; (try simp only [List.set_cons_succ]); (try simp only [List.set_cons_zero])))
  refine g_nil ?_
  clear hS hcl
  intro hcl ww hS
  refine own_doneT (by kernel_rfl) ?_
  go_wp2_with (first | (refine own_unguard (by rfl) ?_) | (refine w_ld rfl _ rfl (by rfl) (by first | exact rd_1 (by repeat constructor) (by first | rfl | assumption) | exact rd_w (by repeat constructor) (by rfl) | exact rd_o (by assumption) (by rfl) (by first | exact nmn | assumption | simp) | exact rd_h (by assumption) (by rfl) (by first | exact nmn | assumption | simp) | exact rd_1o (by assumption) (by first | exact nmn | assumption | simp) | exact rd_1h (by assumption) (by first | rfl | assumption) (by first | exact nmn | assumption | simp)) hS ?_) | (refine own_box rfl _ _ rfl (by rfl) hS ?_; clear hS; (try clear ww); intro bb ww hS) | (refine w_al rfl rfl hS ?_; clear hS; (try clear ww); intro bb ww hS) | (refine w_st rfl _ _ rfl (by rfl) (by rfl) (by repeat constructor) (by rfl) (by rfl) (by first | rfl | assumption) hS ?_; clear hS; (try clear ww); intro ww hS) | (refine w_s1 rfl _ _ rfl (by rfl) (by repeat constructor) (by first | exact .c | exact .t rfl) (by rfl) (by repeat constructor) hS ?_; clear hS; (try clear ww); intro ww hS))
  obtain rfl := HDD.out
  have hc := (hS.get at0).cell
  refine bodyPost_ret (v := .tuple #[.agg #[.int .i64 3, .string ⟨#[]⟩, .int .i64 0, .int .i64 bw, .int .i64 bh, .int .i64 bd, .int .i64 0, .int .i64 0, .slice kx 3 kc, .int .i64 0, .slice sx 0 sc], .bool true]) (by simp [results, Try.results14, go_sem, hc]) rfl ⟨_, rfl, (repP_turn HR.out hS HO.out).rep, bthen hB0 (HS1.out.chain hS).below⟩

set_option maxHeartbeats 8000000 in
set_option maxRecDepth 100000 in
theorem made32_err (F : Fnt) (l : Int) (c : Bool) (n : Nat) (num den : Bx (n + 1)) (cs ds : List Value) (w : World) (hF : FntOk w F) (hr : Rep w (n + 1) num cs) (hs : Rep w (n + 1) den ds) (m : Nat) (err : Int) (he : err ≠ 0) (hm : ∀ w', Below w.heap.size w w' → Calls Try.prog 11 #[F.val, .agg #[.int .i64 l, .bool c], .agg cs.toArray, .agg ds.toArray] w' (GivesBE (m + 1) (zeroB m) err w')) (ht : tameB F n num den = true) (m1 : modB n num = true) (m2 : modB n den = true) : Calls Try.prog 14 #[.agg (caseL F l c cs ds).toArray] w (GivesMade (m + 1) (zeroB m) false w) := by
  have HT := Lib.hid (fun w' (h : Below w.heap.size w w') => tame32_calls F l c n num den cs ds w' (hF.below h) (hr.step h) (hs.step h) true ht.symm)
  have HN := Lib.hid (fun w' (h : Below w.heap.size w w') => ref32_Modest_calls n num cs w' (hr.step h) _ m1.symm)
  have HD := Lib.hid (fun w' (h : Below w.heap.size w w') => ref32_Modest_calls n den ds w' (hs.step h) _ m2.symm)
  have HM := Lib.hid hm
  have hne : (err == 0) = false := by simpa using he
  have h11 := hr.len
  have h12 := hs.len
  obtain ⟨c0, c1, c2, c3, c4, c5, c6, c7, c8, c9, c10, rfl⟩ := eleven h11
  obtain ⟨d0, d1, d2, d3, d4, d5, d6, d7, d8, d9, d10, rfl⟩ := eleven h12
  clear hF hr hs h11 h12 ht m1 m2 hm he
  go_enter Try.func14, Try.ntmps14
  have hS := own_start w
  go_upto_region 4 with (first | (refine own_unguard (by rfl) ?_) | (refine own_box rfl _ _ rfl rfl hS ?_; clear hS; intro kb w0 hS0; have hB0 := hS0.below; have hrC := has_range (hS0.get at0); have hrF : w0.rangeAt kb 0 F.cells := fun j v hj => hrC j v (case_f (F := F) (l := l) (c := c) (cs := [c0, c1, c2, c3, c4, c5, c6, c7, c8, c9, c10]) (ds := [d0, d1, d2, d3, d4, d5, d6, d7, d8, d9, d10]) hj); have hrS : w0.rangeAt kb 22 [.int .i64 l, .bool c] := fun j v hj => (case_off hrC (case_s (F := F) (l := l) (c := c) (cs := [c0, c1, c2, c3, c4, c5, c6, c7, c8, c9, c10]) (ds := [d0, d1, d2, d3, d4, d5, d6, d7, d8, d9, d10]) hj)); have hrN : w0.rangeAt kb 24 [c0, c1, c2, c3, c4, c5, c6, c7, c8, c9, c10] := fun j v hj => (case_off hrC (case_n (F := F) (l := l) (c := c) (ds := [d0, d1, d2, d3, d4, d5, d6, d7, d8, d9, d10]) hj)); have hrD : w0.rangeAt kb 35 [d0, d1, d2, d3, d4, d5, d6, d7, d8, d9, d10] := fun j v hj => (case_off hrC (case_d (F := F) (l := l) (c := c) hj)); have hS := own_start w0; clear hS0) | (refine own_load_old rfl _ _ rfl rfl hS hrC List.not_mem_nil rt_case ?_) | (refine own_load_old rfl _ _ rfl rfl hS hrF List.not_mem_nil rt_font ?_) | (refine own_load_old rfl _ _ rfl rfl hS hrS List.not_mem_nil rt_style ?_) | (refine own_load_old rfl _ _ rfl rfl hS hrN List.not_mem_nil rt_box ?_) | (refine own_load_old rfl _ _ rfl rfl hS hrD List.not_mem_nil rt_box ?_) | (go_at_call 10; refine own_calls hS (HT.out _ (bthen hB0 hS.below)) ?_; clear hS; (try clear ww); intro ww hS) | (go_at_call 34; refine own_calls hS (by first | exact HN.out _ (bthen hB0 hS.below) | exact HD.out _ (bthen hB0 hS.below)) ?_; clear hS; (try clear ww); intro ww hS) | (go_at_call 11; refine Calls.mono (HM.out _ (bthen hB0 hS.below)) ?_; rintro e w1 ⟨cs1, rfl, hR1, hb1⟩; obtain ⟨b2, Hb2⟩ : ∃ b, Hid (b = bb) := ⟨_, rfl⟩; obtain rfl := Hb2.out; clear Hb2; have hS1 := hS.step hb1; have HS1 := Lib.hid hS1; obtain ⟨kx, kc, sx, sc, rfl⟩ := zero_out hR1; have HR := Lib.hid hR1; clear hR1 hS hb1; obtain ⟨DD, HDD, hS⟩ := hS1.rebaseN; clear hS1) | (refine w_ld rfl _ rfl (by rfl) (by first | exact rd_1 (by repeat constructor) (by first | rfl | assumption) | exact rd_w (by repeat constructor) (by rfl) | exact rd_o (by assumption) (by rfl) (by first | exact nmn | assumption | simp) | exact rd_h (by assumption) (by rfl) (by first | exact nmn | assumption | simp) | exact rd_1o (by assumption) (by first | exact nmn | assumption | simp) | exact rd_1h (by assumption) (by first | rfl | assumption) (by first | exact nmn | assumption | simp)) hS ?_) | (refine own_box rfl _ _ rfl (by rfl) hS ?_; clear hS; (try clear ww); intro bb ww hS) | (refine w_al rfl rfl hS ?_; clear hS; (try clear ww); intro bb ww hS) | (refine w_st rfl _ _ rfl (by rfl) (by rfl) (by repeat constructor) (by rfl) (by rfl) (by first | rfl | assumption) hS ?_; clear hS; (try clear ww); intro ww hS) | (refine w_s1 rfl _ _ rfl (by rfl) (by repeat constructor) (by first | exact .c | exact .t rfl) (by rfl) (by repeat constructor) hS ?_; clear hS; (try clear ww); intro ww hS))
  (try simp only [Act.put]); (try simp only [List.setIfInBounds_toArray]); (try simp only [List.set_cons_succ]); (try simp only [List.set_cons_zero])
  have hne := hS.ne01
  refine own_anyT hS [b2] [9] 11 (by kernel_rfl) (by kernel_rfl) ?_
  clear hS
  intro hcl ww hS
  refine own_batchT hS [(_, _)] (List.Sublist.cons_cons _ (List.nil_sublist _)) (fun x hx => by obtain rfl := List.mem_singleton.1 hx; simpa using hne) [0, 1, 2, 3, 4, 5, 6, 7, 8] 2 rfl hcl (by kernel_rfl) ?_
  (try simp only); repeat (first | (simp only [List.filterMap_cons]) | (simp only [List.filterMap_nil]) | (simp only [List.getElem?_toArray]) | (simp only [List.getElem?_cons_succ]) | (simp only [List.getElem?_cons_zero]) | (simp only [List.reverse_cons]) | (simp only [List.reverse_nil]) | (simp only [List.nil_append]) | (simp only [List.cons_append]))
  repeat (first
      | (first | (refine g_plain rfl ?_) | (refine g_yes rfl rfl rfl (by simp only [List.getElem?_toArray, List.getElem?_cons_succ, List.getElem?_cons_zero]; rfl) (by with_reducible constructor) ?_)
         apply Exists.intro; refine ⟨?_, ?_⟩
         focus (intro wq hq0; (first | have hq : Own _ _ _ wq := hq0 | have hq : Own _ _ _ wq := hq0.1 | skip); first | ((with_reducible show givesAt _ ({ dst := _, op := Op.load _ _, type := _, pos := _, after := _, guard := _ } : Oper) _ _ _); first | (exact givesAt_rd rfl (by rfl) (by first | exact rd_1 (by repeat constructor) (by first | rfl | assumption) | exact rd_w (by repeat constructor) (by rfl) | exact rd_o (by assumption) (by rfl) (by first | exact nmn | assumption | simp) | exact rd_h (by assumption) (by rfl) (by first | exact nmn | assumption | simp) | exact rd_1o (by assumption) (by first | exact nmn | assumption | simp) | exact rd_1h (by assumption) (by first | rfl | assumption) (by first | exact nmn | assumption | simp)) hq)) | (go_simp; first | (with_reducible rfl)))
         simp only [Act.put, List.setIfInBounds_toArray]; (try simp only [List.set_cons_succ]); (try simp only [List.set_cons_zero]))
      | (refine g_no rfl rfl rfl (by simp only [List.getElem?_toArray, List.getElem?_cons_succ, List.getElem?_cons_zero]; rfl) (by with_reducible constructor) ?_; simp only [Act.put, List.setIfInBounds_toArray]; (try simp only [List.set_cons_succ]); (try simp only [List.set_cons_zero])))
  refine g_nil ?_
  clear hS hcl
  intro hcl ww hS
  (try simp only [Act.put]); (try simp only [List.setIfInBounds_toArray]); (try simp only [List.set_cons_succ]); (try simp only [List.set_cons_zero])
  refine own_lateT (K := [(b2, _)]) (L := [(_, _)]) (hS.perm (List.Perm.swap _ _ _)) (fun x hx => by obtain rfl := List.mem_singleton.1 hx; simp) 9 hcl (by simp only [List.getElem?_toArray, List.getElem?_cons_succ, List.getElem?_cons_zero]; rfl) (by kernel_rfl) ?_
  clear hS
  intro hS
  (refine w_st rfl _ _ rfl (by rfl) (by rfl) (by repeat constructor) (by rfl) (by rfl) (by first | rfl | assumption) hS ?_; clear hS; intro ww hS)
  refine wpList_nil ⟨rfl, _, hS, ?_⟩
  clear hS hcl
  intro hcl wf hS
  simp only [List.cons_append, List.nil_append] at hS
  (try simp only [Act.put]); (try simp only [List.setIfInBounds_toArray]); (try simp only [List.set_cons_succ]); (try simp only [List.set_cons_zero])
  refine own_batchT hS [] (List.nil_sublist _) (fun x hx => by cases hx) [10] 0 rfl hcl (by kernel_rfl) ?_
  (try simp only); repeat (first | (simp only [List.filterMap_cons]) | (simp only [List.filterMap_nil]) | (simp only [List.getElem?_toArray]) | (simp only [List.getElem?_cons_succ]) | (simp only [List.getElem?_cons_zero]) | (simp only [List.reverse_cons]) | (simp only [List.reverse_nil]) | (simp only [List.nil_append]) | (simp only [List.cons_append]))
  repeat (first
      | (first | (refine g_plain rfl ?_) | (refine g_yes rfl rfl rfl (by simp only [List.getElem?_toArray, List.getElem?_cons_succ, List.getElem?_cons_zero]; rfl) (by with_reducible constructor) ?_)
         apply Exists.intro; refine ⟨?_, ?_⟩
         focus (intro wq hq0; (first | have hq : Own _ _ _ wq := hq0 | have hq : Own _ _ _ wq := hq0.1 | skip); first | ((with_reducible show givesAt _ ({ dst := _, op := Op.load _ _, type := _, pos := _, after := _, guard := _ } : Oper) _ _ _); first | (exact givesAt_rd rfl (by rfl) (by first | exact rd_1 (by repeat constructor) (by first | rfl | assumption) | exact rd_w (by repeat constructor) (by rfl) | exact rd_o (by assumption) (by rfl) (by first | exact nmn | assumption | simp) | exact rd_h (by assumption) (by rfl) (by first | exact nmn | assumption | simp) | exact rd_1o (by assumption) (by first | exact nmn | assumption | simp) | exact rd_1h (by assumption) (by first | rfl | assumption) (by first | exact nmn | assumption | simp)) hq)) | (go_simp; first | (with_reducible rfl)))
         simp only [Act.put, List.setIfInBounds_toArray]; (try simp only [List.set_cons_succ]); (try simp only [List.set_cons_zero]))
      | (refine g_no rfl rfl rfl (by simp only [List.getElem?_toArray, List.getElem?_cons_succ, List.getElem?_cons_zero]; rfl) (by with_reducible constructor) ?_; simp only [Act.put, List.setIfInBounds_toArray]; (try simp only [List.set_cons_succ]); (try simp only [List.set_cons_zero])))
  refine g_nil ?_
  clear hS hcl
  intro hcl ww hS
  refine own_doneT (by kernel_rfl) ?_
  go_wp2_with (first | (refine own_unguard (by rfl) ?_) | (refine w_ld rfl _ rfl (by rfl) (by first | exact rd_1 (by repeat constructor) (by first | rfl | assumption) | exact rd_w (by repeat constructor) (by rfl) | exact rd_o (by assumption) (by rfl) (by first | exact nmn | assumption | simp) | exact rd_h (by assumption) (by rfl) (by first | exact nmn | assumption | simp) | exact rd_1o (by assumption) (by first | exact nmn | assumption | simp) | exact rd_1h (by assumption) (by first | rfl | assumption) (by first | exact nmn | assumption | simp)) hS ?_) | (refine own_box rfl _ _ rfl (by rfl) hS ?_; clear hS; (try clear ww); intro bb ww hS) | (refine w_al rfl rfl hS ?_; clear hS; (try clear ww); intro bb ww hS) | (refine w_st rfl _ _ rfl (by rfl) (by rfl) (by repeat constructor) (by rfl) (by rfl) (by first | rfl | assumption) hS ?_; clear hS; (try clear ww); intro ww hS) | (refine w_s1 rfl _ _ rfl (by rfl) (by repeat constructor) (by first | exact .c | exact .t rfl) (by rfl) (by repeat constructor) hS ?_; clear hS; (try clear ww); intro ww hS))
  obtain rfl := HDD.out
  have hc := (hS.get at0).cell
  refine bodyPost_ret (v := .tuple #[.agg #[.int .i64 0, .string ⟨#[]⟩, .int .i64 0, .int .i64 0, .int .i64 0, .int .i64 0, .int .i64 0, .int .i64 0, .slice kx 0 kc, .int .i64 0, .slice sx 0 sc], .bool false]) (by simp [results, Try.results14, go_sem, hc]) rfl ⟨_, rfl, rep_bare_any (n := m) HR.out rfl, bthen hB0 (HS1.out.chain hS).below⟩

/-- When there is a fraction. -/
def MadeOk (F : Fnt) (l : Int) (n : Nat) (num den : Bx (n + 1)) : Prop := tameB F n num den = true ∧ modB n num = true ∧ modB n den = true ∧ FracOk F l n num den ∧ validB (n + 2) (fracB F l n num den)
theorem made32_bad (F : Fnt) (l : Int) (c : Bool) (n : Nat) (num den : Bx (n + 1)) (cs ds : List Value) (w : World) (hF : FntOk w F) (hr : Rep w (n + 1) num cs) (hs : Rep w (n + 1) den ds) (m : Nat) (hb : ¬ MadeOk F l n num den) : Calls Try.prog 14 #[.agg (caseL F l c cs ds).toArray] w (GivesMade (m + 1) (zeroB m) false w) := by
  cases ht : tameB F n num den
  · exact made32_no0 F l c n num den cs ds w hF hr hs m ht
  · cases m1 : modB n num
    · exact made32_no1 F l c n num den cs ds w hF hr hs m ht m1
    · cases m2 : modB n den
      · exact made32_no2 F l c n num den cs ds w hF hr hs m ht m1 m2
      · by_cases ho : FracOk F l n num den
        · by_cases hv : validB (n + 2) (fracB F l n num den)
          · exact absurd ⟨ht, m1, m2, ho, hv⟩ hb
          · exact made32_err F l c n num den cs ds w hF hr hs m 6 (by omega) (fun w' h => fracMake_lim F l c n num den cs ds w' (hF.below h) ho.2.1 ho.1 (hr.step h) (hs.step h) ho.2.2.1 ho.2.2.2 m hv) ht m1 m2
        · exact made32_err F l c n num den cs ds w hF hr hs m 1 (by omega) (fun w' h => fracMake_bad F l c n m num den cs ds w' (hF.below h) (hr.step h) (hs.step h) ho) ht m1 m2

end Go.Proofs.Ytfmoghkffffmmaa
namespace Go.Proofs.Ytfmoghkffffmmaa
open Go.RowKit

attribute [local irreducible] wpQuiet wpG wpP wpK wpList Code.wp Calls

instance zt_fnt : ZeroTy Try.prog 27 [.slice none 0 0, .slice none 0 0, .int .i64 0, .int .i64 0, .int .i64 0, .int .i64 0, .int .i64 0, .int .i64 0, .int .i64 0, .int .i64 0, .int .i64 0, .int .i64 0, .int .i64 0, .int .i64 0, .int .i64 0, .int .i64 0, .int .i64 0, .int .i64 0, .int .i64 0, .int .i64 0, .int .i64 0, .int .i64 0] := ⟨.agg #[.slice none 0 0, .slice none 0 0, .int .i64 0, .int .i64 0, .int .i64 0, .int .i64 0, .int .i64 0, .int .i64 0, .int .i64 0, .int .i64 0, .int .i64 0, .int .i64 0, .int .i64 0, .int .i64 0, .int .i64 0, .int .i64 0, .int .i64 0, .int .i64 0, .int .i64 0, .int .i64 0, .int .i64 0, .int .i64 0], by kernel_rfl, rfl⟩
/-- The font of the example, its numerator and its denominator. -/
def awF : Fnt := { gx := none, gc := 0, gs := [], sx := none, sc := 0, ss := [], quad := 0, xheight := 0, axis := 250, rule := 40, num1 := 677, num2 := 0, den1 := 686, den2 := 0, sup1 := 0, sup2 := 0, sup3 := 0, sub1 := 0, sub2 := 0, supdrop := 0, subdrop := 0, script := 70, sscript := 50, dpercent := 90, dshort := 0, acc := 0 }
def awN : Bx 1 := (⟨2, ⟨#[]⟩, 0, 10, 0, 300, 0, 0, 0, []⟩, [])
def awD : Bx 1 := (⟨2, ⟨#[]⟩, 0, 0, 0, 0, 0, 0, 0, []⟩, [])
theorem awF_ok (w : World) : FntOk w awF where
  glys := .inl rfl
  strs := .inl rfl
  gok := fun g hg => by cases hg
  sok := fun s hs => by cases hs
  glen := Nat.zero_le _
  slen := Nat.zero_le _
  gcap := ⟨Nat.zero_le _, fun h => absurd rfl h⟩
  scap := ⟨Nat.zero_le _, fun h => absurd rfl h⟩
  prm := fun n hn => by
    simp only [Fnt.prm, awF, List.mem_cons, Value.int.injEq, true_and, List.not_mem_nil, or_false] at hn
    unfold I64
    omega
theorem awF_valid : ValidF awF := ⟨by decide, by decide, by rfl, by simp [awF, GlysOk], fun k s h => by simp [awF] at h⟩
theorem awN_valid : validB 1 awN := ⟨by simp [allOwn, ownOk, lensOk, Hd.lens, kindOk, srcOk, srcEnd, awN, Lib.toList_data], by decide, by decide⟩
theorem awD_valid : validB 1 awD := ⟨by simp [allOwn, ownOk, lensOk, Hd.lens, kindOk, srcOk, srcEnd, awD, Lib.toList_data], by decide, by decide⟩
theorem awR_eq : fracB awF 0 0 awN awD = listB 1 10 690 686 [atXY 1 awN 0 690, atXY 1 (ruleB 0 10 40 0) 0 230, atXY 1 awD 5 (-686)] := by rfl
theorem awR_valid : validB 2 (fracB awF 0 0 awN awD) := by
  rw [awR_eq]
  exact ⟨by simp [allOwn, ownOk, lensOk, Hd.lens, kindOk, srcOk, srcEnd, awN, awD, listB, ruleB, atXY, Lib.toList_data], by decide, by decide⟩
theorem awN_rep (w : World) : Rep w 1 awN [.int .i64 2, .string ⟨#[]⟩, .int .i64 0, .int .i64 10, .int .i64 0, .int .i64 300, .int .i64 0, .int .i64 0, .slice none 0 0, .int .i64 0, .slice none 0 0] :=
  rep_mk (kx := none) (sx := none) (kc := 0) (sc := 0) (hdOk_new (by unfold I64; omega) (by unfold I64; omega) i64_0 (by unfold I64; omega)) (by simp) (.inl rfl) (fun i kid hi => by simp at hi)
theorem awD_rep (w : World) : Rep w 1 awD [.int .i64 2, .string ⟨#[]⟩, .int .i64 0, .int .i64 0, .int .i64 0, .int .i64 0, .int .i64 0, .int .i64 0, .slice none 0 0, .int .i64 0, .slice none 0 0] :=
  rep_mk (kx := none) (sx := none) (kc := 0) (sc := 0) (hdOk_new (by unfold I64; omega) i64_0 i64_0 i64_0) (by simp) (.inl rfl) (fun i kid hi => by simp at hi)
theorem awMake (w : World) : Calls Try.prog 11 #[awF.val, .agg #[.int .i64 0, .bool false], .agg #[.int .i64 2, .string ⟨#[]⟩, .int .i64 0, .int .i64 10, .int .i64 0, .int .i64 300, .int .i64 0, .int .i64 0, .slice none 0 0, .int .i64 0, .slice none 0 0], .agg #[.int .i64 2, .string ⟨#[]⟩, .int .i64 0, .int .i64 0, .int .i64 0, .int .i64 0, .int .i64 0, .int .i64 0, .slice none 0 0, .int .i64 0, .slice none 0 0]] w (GivesBE 2 (fracB awF 0 0 awN awD) 0 w) :=
  fracMake_ok awF 0 false 0 awN awD _ _ w (awF_ok w) (by rfl) awF_valid (awN_rep w) (awD_rep w) awN_valid awD_valid awR_valid
/-- The cells that the example looks at. -/
theorem awLook {w : World} {cs : List Value} (h : Rep w 2 (fracB awF 0 0 awN awD) cs) : ∃ c0 c1 c2 c4 c5 c6 c7 c9 c10 k o kc, cs = [c0, c1, c2, .int .i64 10, c4, c5, c6, c7, .slice (some ⟨k, o, none⟩) 3 kc, c9, c10] ∧ w.cell? ⟨k, o + 7, none⟩ = some (.int .i64 690) ∧ w.cell? ⟨k, o + 11 + 7, none⟩ = some (.int .i64 230) ∧ cs.all (·.oneCell') = true := by
  have hall := rep_all h
  obtain ⟨kx, kc, sx, sc, rfl, _, _, _, hk⟩ := rep_out h
  obtain ⟨k, o, css, rfl, hr0, hp0⟩ := hk 0 _ rfl
  obtain ⟨k1, o1, css1, e1, hr1, hp1⟩ := hk 1 _ rfl
  obtain ⟨rfl, rfl⟩ : k = k1 ∧ o = o1 := by simpa using e1
  obtain ⟨_, _, _, _, rfl, _⟩ := rep_out hp0
  obtain ⟨_, _, _, _, rfl, _⟩ := rep_out hp1
  refine ⟨_, _, _, _, _, _, _, _, _, k, o, kc, rfl, ?_, ?_, hall⟩
  · have := hr0 7 _ rfl
    rw [Nat.zero_mul, Nat.add_zero] at this
    exact this
  · have := hr1 7 _ rfl
    rw [Nat.one_mul] at this
    exact this

set_option maxHeartbeats 8000000 in
set_option maxRecDepth 100000 in
theorem awake32_calls (w : World) : Calls Try.prog 9 #[] w (Gives (.bool true) w) := by
  have HM := Lib.hid (fun w' => awMake w')
  go_enter Try.func9, Try.ntmps9
  have hS := own_start w
  go_wp2_with (first | (refine own_unguard (by rfl) ?_) | (go_at_call 11; refine Calls.mono (HM.out _) ?_; rintro e w6 ⟨cs6, rfl, hr6, hb6⟩; have hB6 := bthen hS.below hb6; obtain ⟨c0, c1, c2, c4, c5, c6, c7, c9, c10, k, o, kc, rfl, hy0, hy1, hall⟩ := awLook hr6; clear hS hr6 hb6; have hS := own_start w6) | (refine own_store rfl _ _ _ rfl rfl rfl hS at0 rt_box (by rfl) hall ?_; clear hS; intro ww hS; (try simp only [List.set_cons_zero] at hS)) | (refine w_ld rfl _ rfl (by rfl) (by first | exact rd_1 (by repeat constructor) (by first | rfl | assumption) | exact rd_w (by repeat constructor) (by rfl) | exact rd_o (by assumption) (by rfl) (by first | exact nmn | assumption | simp) | exact rd_h (by assumption) (by rfl) (by first | exact nmn | assumption | simp) | exact rd_1o (by assumption) (by first | exact nmn | assumption | simp) | exact rd_1h (by assumption) (by first | rfl | assumption) (by first | exact nmn | assumption | simp)) hS ?_) | (refine own_box rfl _ _ rfl (by rfl) hS ?_; clear hS; (try clear ww); intro bb ww hS) | (refine w_al rfl rfl hS ?_; clear hS; (try clear ww); intro bb ww hS) | (refine w_st rfl _ _ rfl (by rfl) (by rfl) (by repeat constructor) (by rfl) (by rfl) (by first | rfl | assumption) hS ?_; clear hS; (try clear ww); intro ww hS) | (refine w_s1 rfl _ _ rfl (by rfl) (by repeat constructor) (by first | exact .c | exact .t rfl) (by rfl) (by repeat constructor) hS ?_; clear hS; (try clear ww); intro ww hS))
  go_ret
  exact ⟨rfl, bthen hB6 hS.below⟩

end Go.Proofs.Ytfmoghkffffmmaa
namespace Go.Proofs.Ytfmoghkffffmmaa
open Go.RowKit

attribute [local irreducible] wpQuiet wpG wpP wpK wpList Code.wp Calls

set_option maxHeartbeats 4000000 in
set_option maxRecDepth 100000 in
theorem ref32_Gap_0 (F : Fnt) (l : Int) (c : Bool) (w : World) (hl : lvlOk l = true) (hv : ValidF F) (h0 : l = 0) : Calls Try.prog 15 #[F.val, .agg #[.int .i64 l, .bool c]] w (Gives (.tuple #[.int .i64 (fracGap l (par F l F.rule)), .int .i64 (fracY F l)]) w) := by
  have hp := prm_len hv
  have HR := Lib.hid (fun w' => ref32_Par_calls F l F.rule c w' hl hv (by omega))
  have HX := Lib.hid (fun w' => ref32_Par_calls F l F.axis c w' hl hv (by omega))
  have HH := Lib.hid (fun w' => ref32_Half_calls (par F l F.rule) w')
  have br := par_in (l := l) hv hp.1.1 hp.1.2
  have br : 0 ≤ par F l F.rule ∧ par F l F.rule ≤ 20000 := by omega
  have bx := par_in (l := l) hv hp.2.1.1 hp.2.1.2
  have bx : 0 ≤ par F l F.axis ∧ par F l F.axis ≤ 20000 := by omega
  have bh := hlf_in br.1 (by omega)
  have e1 : fracGap l (par F l F.rule) = 3 * par F l F.rule := by unfold fracGap; rw [if_pos h0]
  have e2 : fracY F l = par F l F.axis - hlf (par F l F.rule) := rfl
  rw [e1, e2]
  clear e1 e2 hp
  generalize hlf (par F l F.rule) = h at *
  generalize par F l F.rule = r at *
  generalize par F l F.axis = x at *
  subst h0
  go_enter Try.func15, Try.ntmps15
  have hS := own_start w
  go_wp2_with (first | (refine own_unguard (by rfl) ?_) | (go_at_call 16; refine own_calls hS (by first | exact HR.out _ | exact HX.out _) ?_; clear hS; (try clear ww); intro ww hS) | (go_at_call 30; refine own_calls hS (HH.out _) ?_; clear hS; (try clear ww); intro ww hS) | (refine w_ld rfl _ rfl (by rfl) (by first | exact rd_1 (by repeat constructor) (by first | rfl | assumption) | exact rd_w (by repeat constructor) (by rfl) | exact rd_o (by assumption) (by rfl) (by first | exact nmn | assumption | simp) | exact rd_h (by assumption) (by rfl) (by first | exact nmn | assumption | simp) | exact rd_1o (by assumption) (by first | exact nmn | assumption | simp) | exact rd_1h (by assumption) (by first | rfl | assumption) (by first | exact nmn | assumption | simp)) hS ?_) | (refine own_box rfl _ _ rfl (by rfl) hS ?_; clear hS; (try clear ww); intro bb ww hS) | (refine w_al rfl rfl hS ?_; clear hS; (try clear ww); intro bb ww hS) | (refine w_st rfl _ _ rfl (by rfl) (by rfl) (by repeat constructor) (by rfl) (by rfl) (by first | rfl | assumption) hS ?_; clear hS; (try clear ww); intro ww hS) | (refine w_s1 rfl _ _ rfl (by rfl) (by repeat constructor) (by first | exact .c | exact .t rfl) (by rfl) (by repeat constructor) hS ?_; clear hS; (try clear ww); intro ww hS))
  go_ret2
  exact own_gives hS

set_option maxHeartbeats 4000000 in
set_option maxRecDepth 100000 in
theorem ref32_Gap_n (F : Fnt) (l : Int) (c : Bool) (w : World) (hl : lvlOk l = true) (hv : ValidF F) (h0 : l ≠ 0) : Calls Try.prog 15 #[F.val, .agg #[.int .i64 l, .bool c]] w (Gives (.tuple #[.int .i64 (fracGap l (par F l F.rule)), .int .i64 (fracY F l)]) w) := by
  have hp := prm_len hv
  have HR := Lib.hid (fun w' => ref32_Par_calls F l F.rule c w' hl hv (by omega))
  have HX := Lib.hid (fun w' => ref32_Par_calls F l F.axis c w' hl hv (by omega))
  have HH := Lib.hid (fun w' => ref32_Half_calls (par F l F.rule) w')
  have br := par_in (l := l) hv hp.1.1 hp.1.2
  have br : 0 ≤ par F l F.rule ∧ par F l F.rule ≤ 20000 := by omega
  have bx := par_in (l := l) hv hp.2.1.1 hp.2.1.2
  have bx : 0 ≤ par F l F.axis ∧ par F l F.axis ≤ 20000 := by omega
  have bh := hlf_in br.1 (by omega)
  have e1 : fracGap l (par F l F.rule) = par F l F.rule := by unfold fracGap; rw [if_neg h0]
  have e2 : fracY F l = par F l F.axis - hlf (par F l F.rule) := rfl
  rw [e1, e2]
  clear e1 e2 hp
  generalize hlf (par F l F.rule) = h at *
  generalize par F l F.rule = r at *
  generalize par F l F.axis = x at *
  have dl : decide (l = 0) = false := decide_eq_false h0
  go_enter Try.func15, Try.ntmps15
  have hS := own_start w
  go_wp2_with (first | (refine own_unguard (by rfl) ?_) | (go_at_call 16; refine own_calls hS (by first | exact HR.out _ | exact HX.out _) ?_; clear hS; (try clear ww); intro ww hS) | (go_at_call 30; refine own_calls hS (HH.out _) ?_; clear hS; (try clear ww); intro ww hS) | (refine w_ld rfl _ rfl (by rfl) (by first | exact rd_1 (by repeat constructor) (by first | rfl | assumption) | exact rd_w (by repeat constructor) (by rfl) | exact rd_o (by assumption) (by rfl) (by first | exact nmn | assumption | simp) | exact rd_h (by assumption) (by rfl) (by first | exact nmn | assumption | simp) | exact rd_1o (by assumption) (by first | exact nmn | assumption | simp) | exact rd_1h (by assumption) (by first | rfl | assumption) (by first | exact nmn | assumption | simp)) hS ?_) | (refine own_box rfl _ _ rfl (by rfl) hS ?_; clear hS; (try clear ww); intro bb ww hS) | (refine w_al rfl rfl hS ?_; clear hS; (try clear ww); intro bb ww hS) | (refine w_st rfl _ _ rfl (by rfl) (by rfl) (by repeat constructor) (by rfl) (by rfl) (by first | rfl | assumption) hS ?_; clear hS; (try clear ww); intro ww hS) | (refine w_s1 rfl _ _ rfl (by rfl) (by repeat constructor) (by first | exact .c | exact .t rfl) (by rfl) (by repeat constructor) hS ?_; clear hS; (try clear ww); intro ww hS))
  go_ret2
  exact own_gives hS

theorem ref32_Gap_calls (F : Fnt) (l : Int) (c : Bool) (w : World) (hl : lvlOk l = true) (hv : ValidF F) : Calls Try.prog 15 #[F.val, .agg #[.int .i64 l, .bool c]] w (Gives (.tuple #[.int .i64 (fracGap l (par F l F.rule)), .int .i64 (fracY F l)]) w) := by
  by_cases h : l = 0
  · exact ref32_Gap_0 F l c w hl hv h
  · exact ref32_Gap_n F l c w hl hv h

end Go.Proofs.Ytfmoghkffffmmaa
namespace Go.Proofs.Ytfmoghkffffmmaa
open Go.RowKit

attribute [local irreducible] wpQuiet wpG wpP wpK wpList Code.wp Calls

theorem modB_out {n : Nat} {b : Bx (n + 1)} (h : modB n b = true) : (-100000000 ≤ b.1.w ∧ b.1.w ≤ 100000000) ∧ (-100000000 ≤ b.1.h ∧ b.1.h ≤ 100000000) ∧ (-100000000 ≤ b.1.d ∧ b.1.d ≤ 100000000) ∧ (-100000000 ≤ b.1.x ∧ b.1.x ≤ 100000000) ∧ (-100000000 ≤ b.1.y ∧ b.1.y ≤ 100000000) := by
  simp [modB, modL, Hd.lens] at h
  omega
/-- The cells of a box. -/
theorem kid_out {w : World} {n : Nat} {k sz bw bh bd x y o : Int} {nm : ByteArray} {src : List Int} {kids : List (Bx n)} {cs : List Value} (h : Rep w (n + 1) (⟨k, nm, sz, bw, bh, bd, x, y, o, src⟩, kids) cs) : ∃ kx kc sx sc, cs = [.int .i64 k, .string nm, .int .i64 sz, .int .i64 bw, .int .i64 bh, .int .i64 bd, .int .i64 x, .int .i64 y, .slice kx kids.length kc, .int .i64 o, .slice sx src.length sc] := by
  obtain ⟨kx, kc, sx, sc, rfl, _⟩ := rep_out h
  exact ⟨kx, kc, sx, sc, rfl⟩
theorem rule_out {w : World} {n : Nat} {bw bh bd x y : Int} {cs : List Value} (h : Rep w (n + 1) (atXY (n + 1) (ruleB n bw bh bd) x y) cs) : ∃ kx kc sx sc, cs = [.int .i64 2, .string ⟨#[]⟩, .int .i64 0, .int .i64 bw, .int .i64 bh, .int .i64 bd, .int .i64 x, .int .i64 y, .slice kx 0 kc, .int .i64 0, .slice sx 0 sc] := by
  obtain ⟨kx, kc, sx, sc, rfl, _⟩ := rep_out h
  exact ⟨kx, kc, sx, sc, rfl⟩
/-- A list of three boxes, and the boxes. -/
theorem three_out {w : World} {n : Nat} {bw bh bd : Int} {b0 b1 b2 : Bx (n + 1)} {cs : List Value} (h : Rep w (n + 2) (listB (n + 1) bw bh bd [b0, b1, b2]) cs) : ∃ k o kc sx sc q0 q1 q2, cs = [.int .i64 3, .string ⟨#[]⟩, .int .i64 0, .int .i64 bw, .int .i64 bh, .int .i64 bd, .int .i64 0, .int .i64 0, .slice (some ⟨k, o, none⟩) 3 kc, .int .i64 0, .slice sx 0 sc] ∧ w.rangeAt k o q0 ∧ w.rangeAt k (o + 11) q1 ∧ w.rangeAt k (o + 22) q2 ∧ Rep w (n + 1) b0 q0 ∧ Rep w (n + 1) b1 q1 ∧ Rep w (n + 1) b2 q2 := by
  obtain ⟨kx, kc, sx, sc, rfl, _, _, _, hk⟩ := rep_out h
  obtain ⟨k, o, q0, rfl, hr0, hp0⟩ := hk 0 _ rfl
  obtain ⟨k1, o1, q1, e1, hr1, hp1⟩ := hk 1 _ rfl
  obtain ⟨rfl, rfl⟩ : k = k1 ∧ o = o1 := by simpa using e1
  obtain ⟨k2, o2, q2, e2, hr2, hp2⟩ := hk 2 _ rfl
  obtain ⟨rfl, rfl⟩ : k = k2 ∧ o = o2 := by simpa using e2
  rw [Nat.zero_mul, Nat.add_zero] at hr0
  rw [Nat.one_mul] at hr1
  exact ⟨k, o, kc, sx, sc, q0, q1, q2, rfl, hr0, hr1, hr2, hp0, hp1, hp2⟩
/-- The lengths of a fraction with modest boxes. -/
theorem made_nums {F : Fnt} {l : Int} {n : Nat} {num den : Bx (n + 1)} (h : MadeOk F l n num den) : (0 ≤ par F l F.rule ∧ par F l F.rule ≤ 20000) ∧ (-20000 ≤ fracY F l ∧ fracY F l ≤ 20000) ∧ (0 ≤ fracGap l (par F l F.rule) ∧ fracGap l (par F l F.rule) ≤ 60000) ∧ (0 ≤ fracUp F l ∧ fracUp F l ≤ 20000) ∧ (0 ≤ fracDown F l ∧ fracDown F l ≤ 20000) := by
  have hv := h.2.2.2.1.1
  have hp := prm_len hv
  have br := par_in (l := l) hv hp.1.1 hp.1.2
  have br : 0 ≤ par F l F.rule ∧ par F l F.rule ≤ 20000 := by omega
  have bx := par_in (l := l) hv hp.2.1.1 hp.2.1.2
  have bh := hlf_in br.1 (by omega)
  refine ⟨br, by unfold fracY; omega, by unfold fracGap; split <;> omega, ?_, ?_⟩
  · unfold fracUp
    split
    · have := par_in (l := l) hv hp.2.2.1.1 hp.2.2.1.2; omega
    · have := par_in (l := l) hv hp.2.2.2.1.1 hp.2.2.2.1.2; omega
  · unfold fracDown
    split
    · have := par_in (l := l) hv hp.2.2.2.2.1.1 hp.2.2.2.2.1.2; omega
    · have := par_in (l := l) hv hp.2.2.2.2.2.1 hp.2.2.2.2.2.2; omega
theorem wrap_in {n : Int} (h : -4000000000 ≤ n ∧ n ≤ 4000000000) : IntKind.i64.wrap n = n := IntWalk.i64_in n (by omega)

end Go.Proofs.Ytfmoghkffffmmaa
namespace Go.Proofs.Ytfmoghkffffmmaa
open Go.RowKit
section
variable {P : Program} {l : List Oper} {Q : Exit → Act → World → Prop} {D : List Nat} {W w : World} {L K : List (Nat × List Value)} {a : Act} {mid hard : List Nat} {m : Nat} {done : List Nat}

/-- Quiet operations that look at what was there when the region began. -/
theorem own_batchN (hS : Own D w L w) (is : List Nat) (n : Nat) (hmn : n + is.length = m) {w0 : World} (hS0 : Own D w L w0) (hcl : Closed l.toArray (mk l.toArray.size done)) (hB : (Region.noSelect l.toArray && batchB l.toArray (fun i => !hard.contains i && !mid.contains i) (fun i => !hard.contains i) done is) = true)
    (h : wpG P l.toArray (fun w' => Own D w L w') (fun a' => Closed l.toArray (mk l.toArray.size (is.reverse ++ done)) → ∀ w', Own D w L w' → wpK P l.toArray Q (relOf w.heap.size mid hard) n (mk l.toArray.size (is.reverse ++ done)) a' w') (is.filterMap (fun i => l.toArray[i]?)) a) :
    wpK P l.toArray Q (relOf w.heap.size mid hard) m (mk l.toArray.size done) a w0 :=
  own_batchM hS0 (Nat.le_refl _) (fun x hx => (hS.has x hx).lt) is n hmn hcl hB h
/-- What is new is behind the old. -/
theorem Own.newer (hS : Own D W (K ++ L) w) (hD : ∀ k ∈ D, k ∈ L.map (·.1)) : ∀ x ∈ K, W.heap.size ≤ x.1 := fun x hx => by
  rcases hS.ge x (List.mem_append_left _ hx) with h | h
  · have h1 := hD _ h
    have h2 := hS.apart
    rw [List.map_append, List.nodup_append] at h2
    exact absurd rfl (h2.2.2 _ (List.mem_map_of_mem hx) _ h1)
  · exact h
/-- An operation that turns the new blocks K alone. -/
theorem own_mid (hS : Own D W (K ++ L) w) (hK : ∀ x ∈ K, W.heap.size ≤ x.1) (i : Nat) {oi : Oper} (hcl : Closed l.toArray (mk l.toArray.size done)) (hi : l.toArray[i]? = some oi) (hr : (decide (Region.ready .any l.toArray (mk l.toArray.size done) = [i]) && (!hard.contains i && mid.contains i)) = true)
    (h : Own (K.map (·.1)) w K w → wpList P l.toArray (fun e a' w' => e = .normal ∧ ∃ K', Own (K.map (·.1)) w K' w' ∧ (Closed l.toArray (mk l.toArray.size (i :: done)) → ∀ w'', Own D W (K' ++ L) w'' → wpK P l.toArray Q (relOf W.heap.size mid hard) m (mk l.toArray.size (i :: done)) a' w'')) [oi] a w) :
    wpK P l.toArray Q (relOf W.heap.size mid hard) (m + 1) (mk l.toArray.size done) a w := by
  rw [Bool.and_eq_true, decide_eq_true_eq] at hr
  exact wpK_one hr.1 (mid_pt hS hK hS.size i hi hr.2 fun hO => wpList_mono (fun e a' w' ⟨he, L1, h1, h2⟩ => ⟨he, L1, h1, h2 (hcl.next (by rw [hr.1]; simp))⟩) _ _ _ (h hO))
/-- A block that was there before is none of the call's own. -/
theorem Own.oldOff (hS : Own [] W L w) {k : Nat} (h : k < W.heap.size) : k ∉ L.map (·.1) := fun hk => by
  obtain ⟨x, hx, rfl⟩ := List.mem_map.1 hk
  rcases hS.ge x hx with h1 | h1
  · cases h1
  · omega
theorem range_lt {b i : Nat} {v : Value} {cs : List Value} (h : w.rangeAt b i (v :: cs)) : b < w.heap.size := World.block_lt_of_cell? w ⟨b, i + 0, none⟩ (h 0 v rfl)
end
end Go.Proofs.Ytfmoghkffffmmaa
