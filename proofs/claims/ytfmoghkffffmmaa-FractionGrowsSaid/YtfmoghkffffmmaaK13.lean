/- Texts Tam, Fre, Ant. -/
import Derived.Test.YtfmoghkffffmmaaK12
import Derived.Test.YtfmoghkffffmmaaK01
import Derived.Test.YtfmoghkffffmmaaK08
import Derived.Test.YtfmoghkffffmmaaK09
import Derived.Test.YtfmoghkffffmmaaK06
namespace Go.Proofs.Ytfmoghkffffmmaa
open Go.RowKit

attribute [local irreducible] wpQuiet wpG wpP wpK wpList Code.wp Calls

instance rt_case : RowTy Try.prog 35 46 := ⟨⟨_, Try.underlying35, rfl⟩, by kernel_rfl⟩
theorem few_v {F : Fnt} {w : World} {v : Bool} (hF : FntOk w F) (hv : Hid (fewB F = v)) : Calls Try.prog 19 #[F.val] w (Gives (.bool v) w) := by
  have := ref05_Few_calls F w hF
  rwa [hv.out] at this
section
variable {F : Fnt} {l : Int} {c : Bool} {cs ds : List Value} {j : Nat} {v : Value}
theorem case_f (h : F.cells[j]? = some v) : (caseL F l c cs ds)[j]? = some v := by
  have hlt : j < 22 := (List.getElem?_eq_some_iff.1 h).1
  unfold caseL
  rw [List.getElem?_append_left (by simpa using hlt)]
  exact h
theorem case_s (h : ([.int .i64 l, .bool c] : List Value)[j]? = some v) : (caseL F l c cs ds)[22 + j]? = some v := by
  have hlt : j < 2 := (List.getElem?_eq_some_iff.1 h).1
  unfold caseL
  rw [List.getElem?_append_right (by simp), show 22 + j - F.cells.length = j from Nat.add_sub_cancel_left 22 j, List.getElem?_append_left (by simpa using hlt)]
  exact h
end
theorem case_n {F : Fnt} {l : Int} {c : Bool} {c0 c1 c2 c3 c4 c5 c6 c7 c8 c9 c10 v : Value} {ds : List Value} {j : Nat} (h : [c0, c1, c2, c3, c4, c5, c6, c7, c8, c9, c10][j]? = some v) : (caseL F l c [c0, c1, c2, c3, c4, c5, c6, c7, c8, c9, c10] ds)[24 + j]? = some v := by
  have hlt : j < 11 := (List.getElem?_eq_some_iff.1 h).1
  show (F.cells ++ ([.int .i64 l, .bool c] ++ ([c0, c1, c2, c3, c4, c5, c6, c7, c8, c9, c10] ++ ds)))[24 + j]? = some v
  rw [List.getElem?_append_right (by simp; omega), show 24 + j - F.cells.length = 2 + j by show 24 + j - 22 = 2 + j; omega, List.getElem?_append_right (by simp), show 2 + j - ([.int .i64 l, .bool c] : List Value).length = j from Nat.add_sub_cancel_left 2 j, List.getElem?_append_left (by simpa using hlt)]
  exact h
theorem case_d {F : Fnt} {l : Int} {c : Bool} {c0 c1 c2 c3 c4 c5 c6 c7 c8 c9 c10 v : Value} {ds : List Value} {j : Nat} (h : ds[j]? = some v) : (caseL F l c [c0, c1, c2, c3, c4, c5, c6, c7, c8, c9, c10] ds)[35 + j]? = some v := by
  show (F.cells ++ ([.int .i64 l, .bool c] ++ ([c0, c1, c2, c3, c4, c5, c6, c7, c8, c9, c10] ++ ds)))[35 + j]? = some v
  rw [List.getElem?_append_right (by simp; omega), show 35 + j - F.cells.length = 13 + j by show 35 + j - 22 = 13 + j; omega, List.getElem?_append_right (by simp; omega), show 13 + j - ([.int .i64 l, .bool c] : List Value).length = 11 + j by show 13 + j - 2 = 11 + j; omega, List.getElem?_append_right (by simp), show 11 + j - [c0, c1, c2, c3, c4, c5, c6, c7, c8, c9, c10].length = j from Nat.add_sub_cancel_left 11 j]
  exact h
theorem case_off {w : World} {k o j : Nat} {L : List Value} {v : Value} (hr : w.rangeAt k 0 L) (h : L[o + j]? = some v) : w.cell? ⟨k, o + j, none⟩ = some v := by
  have := hr _ _ h
  rwa [Nat.zero_add] at this

set_option maxHeartbeats 8000000 in
set_option maxRecDepth 100000 in
theorem tame32_0 (F : Fnt) (l : Int) (c : Bool) (n : Nat) (num den : Bx (n + 1)) (cs ds : List Value) (w : World) (hF : FntOk w F) (hr : Rep w (n + 1) num cs) (hs : Rep w (n + 1) den ds) (h1 : fewB F = false)   :
    Calls Try.prog 10 #[.agg (caseL F l c cs ds).toArray] w (Gives (.bool false) w) := by
  have HF := Lib.hid (fun w' (h : Below w.heap.size w w') => few_v (hF.below h) (Lib.hid h1))
  have h11 := hr.len
  have h12 := hs.len
  obtain ⟨c0, c1, c2, c3, c4, c5, c6, c7, c8, c9, c10, rfl⟩ := eleven h11
  obtain ⟨d0, d1, d2, d3, d4, d5, d6, d7, d8, d9, d10, rfl⟩ := eleven h12
  clear hF hr hs h11 h12 h1  
  go_enter Try.func10, Try.ntmps10
  have hS := own_start w
  go_wp2_with (first | (refine own_unguard (by rfl) ?_) | (refine own_box rfl _ _ rfl rfl hS ?_; clear hS; intro kb w0 hS0; have hB0 := hS0.below; have hrC := has_range (hS0.get at0); have hrF : w0.rangeAt kb 0 F.cells := fun j v hj => hrC j v (case_f (F := F) (l := l) (c := c) (cs := [c0, c1, c2, c3, c4, c5, c6, c7, c8, c9, c10]) (ds := [d0, d1, d2, d3, d4, d5, d6, d7, d8, d9, d10]) hj); have hrS : w0.rangeAt kb 22 [.int .i64 l, .bool c] := fun j v hj => (case_off hrC (case_s (F := F) (l := l) (c := c) (cs := [c0, c1, c2, c3, c4, c5, c6, c7, c8, c9, c10]) (ds := [d0, d1, d2, d3, d4, d5, d6, d7, d8, d9, d10]) hj)); have hrN : w0.rangeAt kb 24 [c0, c1, c2, c3, c4, c5, c6, c7, c8, c9, c10] := fun j v hj => (case_off hrC (case_n (F := F) (l := l) (c := c) (ds := [d0, d1, d2, d3, d4, d5, d6, d7, d8, d9, d10]) hj)); have hrD : w0.rangeAt kb 35 [d0, d1, d2, d3, d4, d5, d6, d7, d8, d9, d10] := fun j v hj => (case_off hrC (case_d (F := F) (l := l) (c := c) hj)); have hS := own_start w0; clear hS0) | (refine own_load_old rfl _ _ rfl rfl hS hrC List.not_mem_nil rt_case ?_) | (refine own_load_old rfl _ _ rfl rfl hS hrF List.not_mem_nil rt_font ?_) | (refine own_load_old rfl _ _ rfl rfl hS hrS List.not_mem_nil rt_style ?_) | (refine own_load_old rfl _ _ rfl rfl hS hrN List.not_mem_nil rt_box ?_) | (refine own_load_old rfl _ _ rfl rfl hS hrD List.not_mem_nil rt_box ?_) | (go_at_call 19; refine own_calls hS (HF.out _ (bthen hB0 hS.below)) ?_; clear hS; (try clear ww); intro ww hS) | (refine w_ld rfl _ rfl (by rfl) (by first | exact rd_1 (by repeat constructor) (by first | rfl | assumption) | exact rd_w (by repeat constructor) (by rfl) | exact rd_o (by assumption) (by rfl) (by first | exact nmn | assumption | simp) | exact rd_h (by assumption) (by rfl) (by first | exact nmn | assumption | simp) | exact rd_1o (by assumption) (by first | exact nmn | assumption | simp) | exact rd_1h (by assumption) (by first | rfl | assumption) (by first | exact nmn | assumption | simp)) hS ?_) | (refine own_box rfl _ _ rfl (by rfl) hS ?_; clear hS; (try clear ww); intro bb ww hS) | (refine w_al rfl rfl hS ?_; clear hS; (try clear ww); intro bb ww hS) | (refine w_st rfl _ _ rfl (by rfl) (by rfl) (by repeat constructor) (by rfl) (by rfl) (by first | rfl | assumption) hS ?_; clear hS; (try clear ww); intro ww hS) | (refine w_s1 rfl _ _ rfl (by rfl) (by repeat constructor) (by first | exact .c | exact .t rfl) (by rfl) (by repeat constructor) hS ?_; clear hS; (try clear ww); intro ww hS))
  go_ret
  exact ⟨rfl, bthen hB0 hS.below⟩

set_option maxHeartbeats 8000000 in
set_option maxRecDepth 100000 in
theorem tame32_1 (F : Fnt) (l : Int) (c : Bool) (n : Nat) (num den : Bx (n + 1)) (cs ds : List Value) (w : World) (hF : FntOk w F) (hr : Rep w (n + 1) num cs) (hs : Rep w (n + 1) den ds) (h1 : fewB F = true) (h2 : decide (bCount (n + 1) num ≤ 200) = false)  :
    Calls Try.prog 10 #[.agg (caseL F l c cs ds).toArray] w (Gives (.bool false) w) := by
  have HF := Lib.hid (fun w' (h : Below w.heap.size w w') => few_v (hF.below h) (Lib.hid h1))
  have HN := Lib.hid (fun w' (h : Below w.heap.size w w') => ref28_Few_calls (n + 1) num cs 200 w' (hr.step h) (by omega) _ h2.symm)
  have h11 := hr.len
  have h12 := hs.len
  obtain ⟨c0, c1, c2, c3, c4, c5, c6, c7, c8, c9, c10, rfl⟩ := eleven h11
  obtain ⟨d0, d1, d2, d3, d4, d5, d6, d7, d8, d9, d10, rfl⟩ := eleven h12
  clear hF hr hs h11 h12 h1 h2 
  go_enter Try.func10, Try.ntmps10
  have hS := own_start w
  go_wp2_with (first | (refine own_unguard (by rfl) ?_) | (refine own_box rfl _ _ rfl rfl hS ?_; clear hS; intro kb w0 hS0; have hB0 := hS0.below; have hrC := has_range (hS0.get at0); have hrF : w0.rangeAt kb 0 F.cells := fun j v hj => hrC j v (case_f (F := F) (l := l) (c := c) (cs := [c0, c1, c2, c3, c4, c5, c6, c7, c8, c9, c10]) (ds := [d0, d1, d2, d3, d4, d5, d6, d7, d8, d9, d10]) hj); have hrS : w0.rangeAt kb 22 [.int .i64 l, .bool c] := fun j v hj => (case_off hrC (case_s (F := F) (l := l) (c := c) (cs := [c0, c1, c2, c3, c4, c5, c6, c7, c8, c9, c10]) (ds := [d0, d1, d2, d3, d4, d5, d6, d7, d8, d9, d10]) hj)); have hrN : w0.rangeAt kb 24 [c0, c1, c2, c3, c4, c5, c6, c7, c8, c9, c10] := fun j v hj => (case_off hrC (case_n (F := F) (l := l) (c := c) (ds := [d0, d1, d2, d3, d4, d5, d6, d7, d8, d9, d10]) hj)); have hrD : w0.rangeAt kb 35 [d0, d1, d2, d3, d4, d5, d6, d7, d8, d9, d10] := fun j v hj => (case_off hrC (case_d (F := F) (l := l) (c := c) hj)); have hS := own_start w0; clear hS0) | (refine own_load_old rfl _ _ rfl rfl hS hrC List.not_mem_nil rt_case ?_) | (refine own_load_old rfl _ _ rfl rfl hS hrF List.not_mem_nil rt_font ?_) | (refine own_load_old rfl _ _ rfl rfl hS hrS List.not_mem_nil rt_style ?_) | (refine own_load_old rfl _ _ rfl rfl hS hrN List.not_mem_nil rt_box ?_) | (refine own_load_old rfl _ _ rfl rfl hS hrD List.not_mem_nil rt_box ?_) | (go_at_call 19; refine own_calls hS (HF.out _ (bthen hB0 hS.below)) ?_; clear hS; (try clear ww); intro ww hS) | (go_at_call 20; refine own_calls hS (by first | exact HN.out _ (bthen hB0 hS.below)) ?_; clear hS; (try clear ww); intro ww hS) | (refine w_ld rfl _ rfl (by rfl) (by first | exact rd_1 (by repeat constructor) (by first | rfl | assumption) | exact rd_w (by repeat constructor) (by rfl) | exact rd_o (by assumption) (by rfl) (by first | exact nmn | assumption | simp) | exact rd_h (by assumption) (by rfl) (by first | exact nmn | assumption | simp) | exact rd_1o (by assumption) (by first | exact nmn | assumption | simp) | exact rd_1h (by assumption) (by first | rfl | assumption) (by first | exact nmn | assumption | simp)) hS ?_) | (refine own_box rfl _ _ rfl (by rfl) hS ?_; clear hS; (try clear ww); intro bb ww hS) | (refine w_al rfl rfl hS ?_; clear hS; (try clear ww); intro bb ww hS) | (refine w_st rfl _ _ rfl (by rfl) (by rfl) (by repeat constructor) (by rfl) (by rfl) (by first | rfl | assumption) hS ?_; clear hS; (try clear ww); intro ww hS) | (refine w_s1 rfl _ _ rfl (by rfl) (by repeat constructor) (by first | exact .c | exact .t rfl) (by rfl) (by repeat constructor) hS ?_; clear hS; (try clear ww); intro ww hS))
  go_ret
  exact ⟨rfl, bthen hB0 hS.below⟩

set_option maxHeartbeats 8000000 in
set_option maxRecDepth 100000 in
theorem tame32_2 (F : Fnt) (l : Int) (c : Bool) (n : Nat) (num den : Bx (n + 1)) (cs ds : List Value) (w : World) (hF : FntOk w F) (hr : Rep w (n + 1) num cs) (hs : Rep w (n + 1) den ds) (h1 : fewB F = true) (h2 : decide (bCount (n + 1) num ≤ 200) = true) (h3 : decide (bCount (n + 1) den ≤ 200) = false) :
    Calls Try.prog 10 #[.agg (caseL F l c cs ds).toArray] w (Gives (.bool false) w) := by
  have HF := Lib.hid (fun w' (h : Below w.heap.size w w') => few_v (hF.below h) (Lib.hid h1))
  have HN := Lib.hid (fun w' (h : Below w.heap.size w w') => ref28_Few_calls (n + 1) num cs 200 w' (hr.step h) (by omega) _ h2.symm)
  have HD := Lib.hid (fun w' (h : Below w.heap.size w w') => ref28_Few_calls (n + 1) den ds 200 w' (hs.step h) (by omega) _ h3.symm)
  have h11 := hr.len
  have h12 := hs.len
  obtain ⟨c0, c1, c2, c3, c4, c5, c6, c7, c8, c9, c10, rfl⟩ := eleven h11
  obtain ⟨d0, d1, d2, d3, d4, d5, d6, d7, d8, d9, d10, rfl⟩ := eleven h12
  clear hF hr hs h11 h12 h1 h2 h3
  go_enter Try.func10, Try.ntmps10
  have hS := own_start w
  go_wp2_with (first | (refine own_unguard (by rfl) ?_) | (refine own_box rfl _ _ rfl rfl hS ?_; clear hS; intro kb w0 hS0; have hB0 := hS0.below; have hrC := has_range (hS0.get at0); have hrF : w0.rangeAt kb 0 F.cells := fun j v hj => hrC j v (case_f (F := F) (l := l) (c := c) (cs := [c0, c1, c2, c3, c4, c5, c6, c7, c8, c9, c10]) (ds := [d0, d1, d2, d3, d4, d5, d6, d7, d8, d9, d10]) hj); have hrS : w0.rangeAt kb 22 [.int .i64 l, .bool c] := fun j v hj => (case_off hrC (case_s (F := F) (l := l) (c := c) (cs := [c0, c1, c2, c3, c4, c5, c6, c7, c8, c9, c10]) (ds := [d0, d1, d2, d3, d4, d5, d6, d7, d8, d9, d10]) hj)); have hrN : w0.rangeAt kb 24 [c0, c1, c2, c3, c4, c5, c6, c7, c8, c9, c10] := fun j v hj => (case_off hrC (case_n (F := F) (l := l) (c := c) (ds := [d0, d1, d2, d3, d4, d5, d6, d7, d8, d9, d10]) hj)); have hrD : w0.rangeAt kb 35 [d0, d1, d2, d3, d4, d5, d6, d7, d8, d9, d10] := fun j v hj => (case_off hrC (case_d (F := F) (l := l) (c := c) hj)); have hS := own_start w0; clear hS0) | (refine own_load_old rfl _ _ rfl rfl hS hrC List.not_mem_nil rt_case ?_) | (refine own_load_old rfl _ _ rfl rfl hS hrF List.not_mem_nil rt_font ?_) | (refine own_load_old rfl _ _ rfl rfl hS hrS List.not_mem_nil rt_style ?_) | (refine own_load_old rfl _ _ rfl rfl hS hrN List.not_mem_nil rt_box ?_) | (refine own_load_old rfl _ _ rfl rfl hS hrD List.not_mem_nil rt_box ?_) | (go_at_call 19; refine own_calls hS (HF.out _ (bthen hB0 hS.below)) ?_; clear hS; (try clear ww); intro ww hS) | (go_at_call 20; refine own_calls hS (by first | exact HN.out _ (bthen hB0 hS.below) | exact HD.out _ (bthen hB0 hS.below)) ?_; clear hS; (try clear ww); intro ww hS) | (refine w_ld rfl _ rfl (by rfl) (by first | exact rd_1 (by repeat constructor) (by first | rfl | assumption) | exact rd_w (by repeat constructor) (by rfl) | exact rd_o (by assumption) (by rfl) (by first | exact nmn | assumption | simp) | exact rd_h (by assumption) (by rfl) (by first | exact nmn | assumption | simp) | exact rd_1o (by assumption) (by first | exact nmn | assumption | simp) | exact rd_1h (by assumption) (by first | rfl | assumption) (by first | exact nmn | assumption | simp)) hS ?_) | (refine own_box rfl _ _ rfl (by rfl) hS ?_; clear hS; (try clear ww); intro bb ww hS) | (refine w_al rfl rfl hS ?_; clear hS; (try clear ww); intro bb ww hS) | (refine w_st rfl _ _ rfl (by rfl) (by rfl) (by repeat constructor) (by rfl) (by rfl) (by first | rfl | assumption) hS ?_; clear hS; (try clear ww); intro ww hS) | (refine w_s1 rfl _ _ rfl (by rfl) (by repeat constructor) (by first | exact .c | exact .t rfl) (by rfl) (by repeat constructor) hS ?_; clear hS; (try clear ww); intro ww hS))
  go_ret
  exact ⟨rfl, bthen hB0 hS.below⟩

set_option maxHeartbeats 8000000 in
set_option maxRecDepth 100000 in
theorem tame32_3 (F : Fnt) (l : Int) (c : Bool) (n : Nat) (num den : Bx (n + 1)) (cs ds : List Value) (w : World) (hF : FntOk w F) (hr : Rep w (n + 1) num cs) (hs : Rep w (n + 1) den ds) (h1 : fewB F = true) (h2 : decide (bCount (n + 1) num ≤ 200) = true) (h3 : decide (bCount (n + 1) den ≤ 200) = true) :
    Calls Try.prog 10 #[.agg (caseL F l c cs ds).toArray] w (Gives (.bool true) w) := by
  have HF := Lib.hid (fun w' (h : Below w.heap.size w w') => few_v (hF.below h) (Lib.hid h1))
  have HN := Lib.hid (fun w' (h : Below w.heap.size w w') => ref28_Few_calls (n + 1) num cs 200 w' (hr.step h) (by omega) _ h2.symm)
  have HD := Lib.hid (fun w' (h : Below w.heap.size w w') => ref28_Few_calls (n + 1) den ds 200 w' (hs.step h) (by omega) _ h3.symm)
  have h11 := hr.len
  have h12 := hs.len
  obtain ⟨c0, c1, c2, c3, c4, c5, c6, c7, c8, c9, c10, rfl⟩ := eleven h11
  obtain ⟨d0, d1, d2, d3, d4, d5, d6, d7, d8, d9, d10, rfl⟩ := eleven h12
  clear hF hr hs h11 h12 h1 h2 h3
  go_enter Try.func10, Try.ntmps10
  have hS := own_start w
  go_wp2_with (first | (refine own_unguard (by rfl) ?_) | (refine own_box rfl _ _ rfl rfl hS ?_; clear hS; intro kb w0 hS0; have hB0 := hS0.below; have hrC := has_range (hS0.get at0); have hrF : w0.rangeAt kb 0 F.cells := fun j v hj => hrC j v (case_f (F := F) (l := l) (c := c) (cs := [c0, c1, c2, c3, c4, c5, c6, c7, c8, c9, c10]) (ds := [d0, d1, d2, d3, d4, d5, d6, d7, d8, d9, d10]) hj); have hrS : w0.rangeAt kb 22 [.int .i64 l, .bool c] := fun j v hj => (case_off hrC (case_s (F := F) (l := l) (c := c) (cs := [c0, c1, c2, c3, c4, c5, c6, c7, c8, c9, c10]) (ds := [d0, d1, d2, d3, d4, d5, d6, d7, d8, d9, d10]) hj)); have hrN : w0.rangeAt kb 24 [c0, c1, c2, c3, c4, c5, c6, c7, c8, c9, c10] := fun j v hj => (case_off hrC (case_n (F := F) (l := l) (c := c) (ds := [d0, d1, d2, d3, d4, d5, d6, d7, d8, d9, d10]) hj)); have hrD : w0.rangeAt kb 35 [d0, d1, d2, d3, d4, d5, d6, d7, d8, d9, d10] := fun j v hj => (case_off hrC (case_d (F := F) (l := l) (c := c) hj)); have hS := own_start w0; clear hS0) | (refine own_load_old rfl _ _ rfl rfl hS hrC List.not_mem_nil rt_case ?_) | (refine own_load_old rfl _ _ rfl rfl hS hrF List.not_mem_nil rt_font ?_) | (refine own_load_old rfl _ _ rfl rfl hS hrS List.not_mem_nil rt_style ?_) | (refine own_load_old rfl _ _ rfl rfl hS hrN List.not_mem_nil rt_box ?_) | (refine own_load_old rfl _ _ rfl rfl hS hrD List.not_mem_nil rt_box ?_) | (go_at_call 19; refine own_calls hS (HF.out _ (bthen hB0 hS.below)) ?_; clear hS; (try clear ww); intro ww hS) | (go_at_call 20; refine own_calls hS (by first | exact HN.out _ (bthen hB0 hS.below) | exact HD.out _ (bthen hB0 hS.below)) ?_; clear hS; (try clear ww); intro ww hS) | (refine w_ld rfl _ rfl (by rfl) (by first | exact rd_1 (by repeat constructor) (by first | rfl | assumption) | exact rd_w (by repeat constructor) (by rfl) | exact rd_o (by assumption) (by rfl) (by first | exact nmn | assumption | simp) | exact rd_h (by assumption) (by rfl) (by first | exact nmn | assumption | simp) | exact rd_1o (by assumption) (by first | exact nmn | assumption | simp) | exact rd_1h (by assumption) (by first | rfl | assumption) (by first | exact nmn | assumption | simp)) hS ?_) | (refine own_box rfl _ _ rfl (by rfl) hS ?_; clear hS; (try clear ww); intro bb ww hS) | (refine w_al rfl rfl hS ?_; clear hS; (try clear ww); intro bb ww hS) | (refine w_st rfl _ _ rfl (by rfl) (by rfl) (by repeat constructor) (by rfl) (by rfl) (by first | rfl | assumption) hS ?_; clear hS; (try clear ww); intro ww hS) | (refine w_s1 rfl _ _ rfl (by rfl) (by repeat constructor) (by first | exact .c | exact .t rfl) (by rfl) (by repeat constructor) hS ?_; clear hS; (try clear ww); intro ww hS))
  go_ret
  exact ⟨rfl, bthen hB0 hS.below⟩

/-- What tame returns. -/
theorem tame32_calls (F : Fnt) (l : Int) (c : Bool) (n : Nat) (num den : Bx (n + 1)) (cs ds : List Value) (w : World) (hF : FntOk w F) (hr : Rep w (n + 1) num cs) (hs : Rep w (n + 1) den ds) (v : Bool) (hv : v = (fewB F && (decide (bCount (n + 1) num ≤ 200) && decide (bCount (n + 1) den ≤ 200)))) :
    Calls Try.prog 10 #[.agg (caseL F l c cs ds).toArray] w (Gives (.bool v) w) := by
  subst hv
  cases h1 : fewB F
  · exact tame32_0 F l c n num den cs ds w hF hr hs h1
  · cases h2 : decide (bCount (n + 1) num ≤ 200)
    · exact tame32_1 F l c n num den cs ds w hF hr hs h1 h2
    · cases h3 : decide (bCount (n + 1) den ≤ 200)
      · exact tame32_2 F l c n num den cs ds w hF hr hs h1 h2 h3
      · exact tame32_3 F l c n num den cs ds w hF hr hs h1 h2 h3

end Go.Proofs.Ytfmoghkffffmmaa
namespace Go.Proofs.Ytfmoghkffffmmaa
open Go.RowKit
section
variable {P : Program} {ops : Array Oper} {Q : Exit → Act → World → Prop} {rel : Nat → World → World → Prop} {D : List Nat} {W w : World} {L : List (Nat × List Value)} {a : Act} {done : List Nat}

theorem mk_perm {m : Nat} {l l' : List Nat} (h : l.Perm l') : mk m l = mk m l' := by
  induction h with
  | nil => rfl
  | cons x _ ih => show (mk m _).setIfInBounds x true = (mk m _).setIfInBounds x true; rw [ih]
  | swap x y l => exact mk_swap m y x l
  | trans _ _ ih1 ih2 => exact ih1.trans ih2
/-- Whatever of ks is left may come now, and nothing else. -/
def freesB (ops : Array Oper) : Nat → List Nat → List Nat → Bool
  | 0, _, _ => true
  | f + 1, done, ks => ks.isEmpty || ((Region.ready .any ops (mk ops.size done)).all ks.contains && !(Region.ready .any ops (mk ops.size done)).isEmpty && ks.all fun k => (Region.ready .any ops (mk ops.size done)).contains k && freesB ops f (k :: done) (ks.erase k))
/-- Operation k.1 makes a new variable, which it puts into slot k.2.1, and which holds k.2.2. -/
def FreeAl (P : Program) (ops : Array Oper) (k : Nat × Nat × List Value) : Prop := ∃ ok t, ops[k.1]? = some ok ∧ ok.guard = none ∧ ok.op = .alloc t ∧ ok.dst = some k.2.1 ∧ ZeroTy P t k.2.2
inductive FreesAl (P : Program) (ops : Array Oper) : List (Nat × Nat × List Value) → Prop
  | nil : FreesAl P ops []
  | cons {i d : Nat} {t : TypeId} {z : List Value} {ok : Oper} {ks : List (Nat × Nat × List Value)} : ops[i]? = some ok → ok.guard = none → ok.op = .alloc t → ok.dst = some d → ZeroTy P t z → FreesAl P ops ks → FreesAl P ops ((i, d, z) :: ks)
theorem FreesAl.at {ks : List (Nat × Nat × List Value)} (h : FreesAl P ops ks) : ∀ k ∈ ks, FreeAl P ops k := by
  induction h with
  | nil => intro k hk; cases hk
  | cons h1 h2 h3 h4 h5 _ ih =>
    intro k hk
    rcases List.mem_cons.1 hk with rfl | hk
    · exact ⟨_, _, h1, h2, h3, h4, h5⟩
    · exact ih k hk
/-- The frame, the new variables known: f tells their blocks. -/
def putF (f : Nat → Nat) (ks : List (Nat × Nat × List Value)) (a : Act) : Act := ks.foldr (fun k a => a.put (some k.2.1) (.pointer (some ⟨f k.1, 0, none⟩))) a
def ownF (f : Nat → Nat) (ks : List (Nat × Nat × List Value)) : List (Nat × List Value) := ks.map fun k => (f k.1, k.2.2)
theorem putF_cons (f : Nat → Nat) (k : Nat × Nat × List Value) (ks : List (Nat × Nat × List Value)) (a : Act) : putF f (k :: ks) a = (putF f ks a).put (some k.2.1) (.pointer (some ⟨f k.1, 0, none⟩)) := rfl
theorem ownF_cons (f : Nat → Nat) (k : Nat × Nat × List Value) (ks : List (Nat × Nat × List Value)) : ownF f (k :: ks) = (f k.1, k.2.2) :: ownF f ks := rfl
theorem putF_perm {f : Nat → Nat} {ks js : List (Nat × Nat × List Value)} (h : ks.Perm js) (hd : (ks.map (·.2.1)).Nodup) (a : Act) : putF f ks a = putF f js a := by
  refine List.Perm.foldr_eq' h (fun x hx y hy z => ?_) a
  by_cases he : x = y
  · subst he; rfl
  · refine Act.put_comm z _ _ fun d h1 h2 => he ?_
    injection h1 with h1
    injection h2 with h2
    obtain ⟨i, hi⟩ := List.mem_iff_getElem?.1 hx
    obtain ⟨j, hj⟩ := List.mem_iff_getElem?.1 hy
    have e1 : (ks.map (·.2.1))[i]? = some x.2.1 := by rw [List.getElem?_map, hi]; rfl
    have e2 : (ks.map (·.2.1))[j]? = some x.2.1 := by rw [List.getElem?_map, hj]; simp [h1, h2]
    obtain rfl := (List.getElem?_inj (List.getElem?_eq_some_iff.1 e1).1 hd).1 (e1.trans e2.symm)
    rw [hi] at hj
    exact Option.some.inj hj
theorem ownF_upd {f : Nat → Nat} {i b : Nat} {js : List (Nat × Nat × List Value)} (h : i ∉ js.map (·.1)) : ownF (fun x => if x = i then b else f x) js = ownF f js := by
  unfold ownF
  refine List.map_congr_left fun k hk => ?_
  have : k.1 ≠ i := fun e => h (e ▸ List.mem_map_of_mem hk)
  simp [this]
theorem putF_upd {f : Nat → Nat} {i b : Nat} {a : Act} : ∀ {js : List (Nat × Nat × List Value)}, i ∉ js.map (·.1) → putF (fun x => if x = i then b else f x) js a = putF f js a := by
  intro js
  induction js with
  | nil => intro _; rfl
  | cons k js ih =>
    intro h
    simp only [List.map_cons, List.mem_cons, not_or] at h
    have hk : k.1 ≠ i := fun e => h.1 e.symm
    rw [putF_cons, putF_cons, ih h.2]
    simp [hk]

theorem frees_go {n : Nat} {all : List (Nat × Nat × List Value)} (hal : ∀ k ∈ all, FreeAl P ops k) (hni : (all.map (·.1)).Nodup) (hnd : (all.map (·.2.1)).Nodup) (hrel : ∀ k ∈ all, ∀ w w', Below w.heap.size w w' → rel k.1 w w')
    (hfin : ∀ f w', Closed ops (mk ops.size (all.map (·.1) ++ done)) → Own D W (ownF f all ++ L) w' → wpK P ops Q rel n (mk ops.size (all.map (·.1) ++ done)) (putF f all a) w') :
    ∀ (len : Nat) (ks js : List (Nat × Nat × List Value)) (f : Nat → Nat) (w : World), ks.length = len → (js ++ ks).Perm all → freesB ops len (js.map (·.1) ++ done) (ks.map (·.1)) = true → Closed ops (mk ops.size (js.map (·.1) ++ done)) → Own D W (ownF f js ++ L) w →
      wpK P ops Q rel (n + len) (mk ops.size (js.map (·.1) ++ done)) (putF f js a) w := by
  intro len
  induction len with
  | zero =>
    intro ks js f w hl hp _ hcl hS
    obtain rfl : ks = [] := List.length_eq_zero_iff.1 hl
    rw [List.append_nil] at hp
    have hq : mk ops.size (js.map (·.1) ++ done) = mk ops.size (all.map (·.1) ++ done) := mk_perm ((hp.map _).append_right _)
    rw [hq, putF_perm hp ((hp.map _).nodup_iff.2 hnd)]
    exact hfin f w (hq ▸ hcl) (hS.perm ((hp.map _).append_right _))
  | succ len ih =>
    intro ks js f w hl hp hB hcl hS
    have hne : (ks.map (·.1)).isEmpty = false := by cases ks <;> simp_all
    simp only [freesB, hne, Bool.false_or, Bool.and_eq_true] at hB
    obtain ⟨⟨h1, h2⟩, h3⟩ := hB
    refine ⟨fun h0 => by rw [h0] at h2; simp at h2, fun i hi => ?_⟩
    have h4 := List.all_eq_true.1 h1 i hi
    obtain ⟨k, hk, rfl⟩ := List.mem_map.1 (by simpa using h4 : i ∈ ks.map (·.1))
    have h5 := List.all_eq_true.1 h3 k.1 (List.mem_map_of_mem hk)
    simp only [Bool.and_eq_true] at h5
    obtain ⟨s, t, rfl⟩ := List.append_of_mem hk
    have hka : k ∈ all := hp.subset (by simp)
    obtain ⟨ok, ty, e1, e2, e3, e4, Z⟩ := hal k hka
    have hnp : ((js ++ (s ++ k :: t)).map (·.1)).Nodup := (hp.map _).nodup_iff.2 hni
    have hp' : ((k :: js) ++ (s ++ t)).Perm (js ++ (s ++ k :: t)) := by
      rw [← List.append_assoc, ← List.append_assoc]
      exact (List.perm_middle (a := k) (l₁ := js ++ s) (l₂ := t)).symm
    have hnk : (((k :: js) ++ (s ++ t)).map (·.1)).Nodup := (hp'.map _).nodup_iff.2 hnp
    simp only [List.cons_append, List.map_cons, List.nodup_cons, List.map_append, List.mem_append, not_or] at hnk
    have hjs := hnk.1.1
    have hsn := hnk.1.2.1
    refine point_go k.1 e1 (own_alloc e2 ty e3 (own_start w) Z fun b w' h6 => ?_)
    unfold wpList
    refine ⟨rfl, hrel k hka _ _ h6.below, fun w'' hb => ?_⟩
    have h7 := ih (s ++ t) (k :: js) (fun x => if x = k.1 then b else f x) w'' (by simp at hl ⊢; omega) (hp'.trans hp) (by
      have h8 := h5.2
      rw [List.map_append, List.map_cons, List.erase_append_right _ hsn, List.erase_cons_head] at h8
      rw [List.map_append]
      exact h8) (hcl.set hi) (by
      rw [ownF_cons, ownF_upd hjs]
      simpa using (hS.join h6).step hb)
    have h9 : putF (fun x => if x = k.1 then b else f x) (k :: js) a = (putF f js a).put ok.dst (.pointer (some ⟨b, 0, none⟩)) := by
      rw [putF_cons, putF_upd hjs, e4]
      simp
    rw [h9] at h7
    exact h7
end
section
variable {P : Program} {l : List Oper} {Q : Exit → Act → World → Prop} {D : List Nat} {W w : World} {L : List (Nat × List Value)} {a : Act} {B : Nat} {mid hard : List Nat} {done : List Nat}
/-- What is to be checked. -/
def freeB (ops : Array Oper) (soft : Nat → Bool) (done : List Nat) (ks : List (Nat × Nat)) : Bool := freesB ops ks.length done (ks.map (·.1)) && decide ((ks.map (·.1)).Nodup) && decide ((ks.map (·.2)).Nodup) && ks.all (fun k => soft k.1)
/-- New variables, made in any order; n operations remain behind. -/
theorem own_frees (hS : Own D W L w) (ks : List (Nat × Nat × List Value)) (n : Nat) {m : Nat} (hmn : n + ks.length = m) (hal : FreesAl P l.toArray ks) (hcl : Closed l.toArray (mk l.toArray.size done))
    (hB : freeB l.toArray (fun i => !hard.contains i && !mid.contains i) done (ks.map fun k => (k.1, k.2.1)) = true)
    (h : ∀ f w', Closed l.toArray (mk l.toArray.size (ks.map (·.1) ++ done)) → Own D W (ownF f ks ++ L) w' → wpK P l.toArray Q (relOf B mid hard) n (mk l.toArray.size (ks.map (·.1) ++ done)) (putF f ks a) w') :
    wpK P l.toArray Q (relOf B mid hard) m (mk l.toArray.size done) a w := by
  subst hmn
  simp only [freeB, Bool.and_eq_true, decide_eq_true_eq, List.map_map, List.length_map] at hB
  obtain ⟨⟨⟨h1, h2⟩, h3⟩, h4⟩ := hB
  refine frees_go (P := P) (Q := Q) (D := D) (W := W) (L := L) (a := a) hal.at h2 h3 (fun k hk w w' hb => ?_) (fun f w' hc hO => h f w' hc hO) ks.length ks [] (fun _ => 0) w rfl (List.Perm.refl _) h1 hcl hS
  rw [relOf_soft (List.all_eq_true.1 h4 (k.1, k.2.1) (List.mem_map_of_mem (f := fun k : Nat × Nat × List Value => (k.1, k.2.1)) hk))]
  exact hb
end
end Go.Proofs.Ytfmoghkffffmmaa
namespace Go.Proofs.Ytfmoghkffffmmaa
open Go.RowKit
section
variable {P : Program} {l : List Oper} {Q : Exit → Act → World → Prop} {D T : List Nat} {W w : World} {L : List (Nat × List Value)} {a : Act}

/-- What an operation of a region may do to the world: a late one turns the blocks of T alone; any other makes memory at most. -/
def relT (T : List Nat) (late : List Nat) (i : Nat) (w w' : World) : Prop := if late.contains i then Own T w [] w' else Below w.heap.size w w'
theorem relT_soft {T late : List Nat} {i : Nat} (h : (!late.contains i) = true) : relT T late i = fun w w' => Below w.heap.size w w' := by
  simp only [Bool.not_eq_true'] at h
  unfold relT
  rw [h]
  rfl
theorem relT_late {T late : List Nat} {i : Nat} (h : late.contains i = true) : relT T late i = fun w w' => Own T w [] w' := by
  unfold relT
  rw [h]
  rfl
/-- What is not of T stays. -/
theorem Own.keepT {L1 : List (Nat × List Value)} {w' : World} (hS : Own (T ++ D) W L1 w) (hL : ∀ x ∈ L1, x.1 ∉ T) (h : Own T w [] w') : Own (T ++ D) W L1 w' where
  os := h.os.trans hS.os
  tape := h.tape.trans hS.tape
  output := h.output.trans hS.output
  size := Nat.le_trans hS.size h.size
  block := fun k hk hd => (h.block k (Nat.lt_of_lt_of_le hk hS.size) (fun ht => hd (List.mem_append_left _ ht))).trans (hS.block k hk hd)
  has := fun x hx => h.hasOld (hL x hx) (hS.has x hx)
  ge := hS.ge
  apart := hS.apart
theorem Own.widen {L1 : List (Nat × List Value)} (hS : Own D W L w) (h : L1.Sublist L) : Own (T ++ D) W L1 w :=
  ⟨hS.os, hS.tape, hS.output, hS.size, fun k hk hd => hS.block k hk (fun ht => hd (List.mem_append_right _ ht)), fun x hx => hS.has x (h.subset hx), fun x hx => by
    rcases hS.ge x (h.subset hx) with h | h
    · exact .inl (List.mem_append_right _ h)
    · exact .inr h, List.Nodup.sublist (h.map _) hS.apart⟩

theorem Own.ne01 {x y : Nat × List Value} (hS : Own D W (x :: y :: L) w) : x.1 ≠ y.1 := fun h => by
  have := hS.apart
  simp [h] at this
theorem own_anyT {id : Nat} (hS : Own D W L w) (T late : List Nat) (n : Nat) (hm : P.follows .mixedOrders = true) (hB : (decide (l.length = n) && Region.noSelect l.toArray) = true)
    (h : Closed l.toArray (mk l.toArray.size []) → ∀ w', Own D W L w' → wpK P l.toArray Q (relT T late) n (mk l.toArray.size []) a w') : (Code.region id l.toArray true).wp P Q a w := by
  simp only [Bool.and_eq_true, decide_eq_true_eq] at hB
  obtain ⟨rfl, hsel⟩ := hB
  refine wp_region_any hm ?_
  have := wpAny_of_wpK _ _ _ _ (h (closed_nil _) _ hS.drew)
  rw [← List.size_toArray] at this
  exact this
section
variable {late : List Nat} {m : Nat} {done : List Nat}
/-- Quiet operations that do not look at the blocks of T: they know the list L1 alone. -/
theorem own_batchT (hS : Own D W L w) (L1 : List (Nat × List Value)) (hL1 : L1.Sublist L) (hT : ∀ x ∈ L1, x.1 ∉ T) (is : List Nat) (n : Nat) (hmn : n + is.length = m) (hcl : Closed l.toArray (mk l.toArray.size done)) (hB : (Region.noSelect l.toArray && batchB l.toArray (fun i => !late.contains i) (fun _ => true) done is) = true)
    (h : wpG P l.toArray (fun w' => Own (T ++ D) W L1 w') (fun a' => Closed l.toArray (mk l.toArray.size (is.reverse ++ done)) → ∀ w', Own D W L w' → wpK P l.toArray Q (relT T late) n (mk l.toArray.size (is.reverse ++ done)) a' w') (is.filterMap (fun i => l.toArray[i]?)) a) :
    wpK P l.toArray Q (relT T late) m (mk l.toArray.size done) a w := by
  subst hmn
  simp only [Bool.and_eq_true] at hB
  refine batch_go (C0 := fun w' => Own (T ++ D) W L1 w') (C := fun w' => Own D W L w') (fun _ _ h hb => h.step hb) (fun _ h => h.widen hL1) (fun _ _ h hb => h.step hb) (fun i hi w w' hb => by rw [relT_soft hi]; exact hb) (fun i _ w w' hC hb => ?_) hB.1 is done a hcl hB.2
    (wpG_mono _ _ _ _ (fun a' h' w' hw' => h' (batch_closed is done hcl hB.2) w' hw') h) w hS
  cases hi : late.contains i
  · rw [relT_soft (by rw [hi]; rfl)] at hb
    exact hC.step hb
  · rw [relT_late hi] at hb
    exact hC.keepT hT hb
/-- The operation that turns the blocks K, which are of T. -/
theorem own_lateT {K : List (Nat × List Value)} (hS : Own D W (K ++ L) w) (hK : ∀ x ∈ K, x.1 ∈ T) (i : Nat) {oi : Oper} (hcl : Closed l.toArray (mk l.toArray.size done)) (hi : l.toArray[i]? = some oi) (hr : (decide (Region.ready .any l.toArray (mk l.toArray.size done) = [i]) && late.contains i) = true)
    (h : Own (K.map (·.1)) w K w → wpList P l.toArray (fun e a' w' => e = .normal ∧ ∃ K', Own (K.map (·.1)) w K' w' ∧ (Closed l.toArray (mk l.toArray.size (i :: done)) → ∀ w'', Own D W (K' ++ L) w'' → wpK P l.toArray Q (relT T late) m (mk l.toArray.size (i :: done)) a' w'')) [oi] a w) :
    wpK P l.toArray Q (relT T late) (m + 1) (mk l.toArray.size done) a w := by
  rw [Bool.and_eq_true, decide_eq_true_eq] at hr
  refine wpK_one hr.1 (point_go i hi (wpList_mono (fun e a' w' ⟨he, K', h1, h2⟩ => ⟨he, ?_, fun w'' hb => ?_⟩) _ _ _ (h (Own.rebase (hS.forget (List.sublist_append_left _ _))))))
  · rw [relT_late hr.2]
    refine ⟨h1.os, h1.tape, h1.output, h1.size, fun k hk ht => h1.block k hk (fun hm => ?_), fun x hx => (by cases hx), fun x hx => (by cases hx), List.nodup_nil⟩
    obtain ⟨x, hx, rfl⟩ := List.mem_map.1 hm
    exact ht (hK x hx)
  · exact h2 (hcl.next (by rw [hr.1]; simp)) w'' ((hS.replace h1).step hb)
theorem own_doneT (hr : Region.ready .any l.toArray (mk l.toArray.size done) = []) (h : Q .normal a w) : wpK P l.toArray Q (relT T late) 0 (mk l.toArray.size done) a w := ⟨hr, h⟩
end
end
end Go.Proofs.Ytfmoghkffffmmaa
