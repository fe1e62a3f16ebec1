/- Texts Ri7, Rm7, Aj7. -/
import Derived.Test.YtgnkngkogamjaaaR21
import Derived.Test.YtgnkngkogamjaaaR19
namespace Go.Proofs.Ytgnkngkogamjaaa
open Go.RowKit

attribute [local irreducible] wpQuiet wpG wpP wpK wpList Code.wp Calls

theorem run_max3 {P : Program} (a b c : Int) (w : World) (ts : Array TypeId) (t : TypeId) : (Builtin.max_ ts t #[.int .i64 a, .int .i64 b, .int .i64 c]).run P w = .ok (.int .i64 (max (max a b) c)) w := by
  rw [run_max_int3]
  have e : (if c > (if b > a then b else a) then c else (if b > a then b else a)) = max (max a b) c := by
    repeat' split
    all_goals omega
  rw [e]
theorem run_min3 {P : Program} (a b c : Int) (w : World) (ts : Array TypeId) (t : TypeId) : (Builtin.min_ ts t #[.int .i64 a, .int .i64 b, .int .i64 c]).run P w = .ok (.int .i64 (min (min a b) c)) w := by
  rw [run_min_int3]
  have e : (if c < (if b < a then b else a) then c else (if b < a then b else a)) = min (min a b) c := by
    repeat' split
    all_goals omega
  rw [e]
/-- A cell that is not too large. -/
def CellOk (n : Nat) (b : Bx (n + 1)) : Prop := validB (n + 1) b ∧ bNested (n + 1) b ≤ 90 ∧ max (max b.1.w b.1.h) b.1.d ≤ 1048576 ∧ -1048576 ≤ min (min b.1.w b.1.h) b.1.d
/-- Arguments of a matrix that is not too large. -/
def RightOk (F : Fnt) (l : Int) (n : Nat) (C : Int) (kids : List (Bx (n + 1))) : Prop := fewX F n kids = true ∧ ValidF F ∧ lvlOk l = true ∧ 1 ≤ C ∧ C ≤ 16 ∧ 1 ≤ kids.length ∧ kids.length ≤ 256 ∧ (kids.length : Int) % C = 0 ∧ ∀ k ∈ kids, CellOk n k

set_option maxHeartbeats 8000000 in
set_option maxRecDepth 100000 in
theorem right_few (F : Fnt) (l : Int) (c : Bool) (n : Nat) (C : Int) (kids : List (Bx (n + 1))) (kx : Option Addr) (kc : Nat) (w : World) (hF : FntOk w F) (hk : RepL w (n + 1) kx kids) (hm : kids.length ≤ maxLen) (h0 : fewX F n kids = false) : Calls Try.prog 13 #[.agg (caseX F l c).toArray, .int .i64 C, .slice kx kids.length kc] w (Gives (.bool false) w) := by
  have HFW := Lib.hid (fun w' (h : Below w.heap.size w w') => few37_calls F l c n kids kx kc w' (hF.below h) (hk.step h) hm false h0.symm)
  clear hF hk hm h0
  go_enter Try.func13, Try.ntmps13
  have hS := own_start w
  go_wp2_with (first | (refine own_unguard (by rfl) ?_) | (refine own_box rfl _ _ rfl rfl hS ?_; clear hS; intro kb w0 hS0; have hrC := (hS0.get at0).range; have HB0 := Lib.hid hS0.below; obtain ⟨hrF, hrS⟩ := caseX_out hrC; have hS := own_start w0; clear hS0) | (refine own_load_old rfl _ _ rfl rfl hS hrC List.not_mem_nil rt_case37 ?_) | (refine own_load_old rfl _ _ rfl rfl hS hrF List.not_mem_nil rt_font ?_) | (refine own_load_old rfl _ _ rfl rfl hS hrS List.not_mem_nil rt_style ?_) | (go_at_call 9; refine own_calls hS (HFW.out _ (bthen HB0.out hS.below)) ?_; clear hS; (try clear ww); intro ww hS) | (refine w_ld rfl _ rfl (by rfl) (by first | exact rd_1 (by repeat constructor) (by first | rfl | assumption) | exact rd_w (by repeat constructor) (by rfl) | exact rd_o (by assumption) (by rfl) (by first | exact nmn | assumption | simp) | exact rd_h (by assumption) (by rfl) (by first | exact nmn | assumption | simp) | exact rd_1o (by assumption) (by first | exact nmn | assumption | simp) | exact rd_1h (by assumption) (by first | rfl | assumption) (by first | exact nmn | assumption | simp)) hS ?_) | (refine own_box rfl _ _ rfl (by rfl) hS ?_; clear hS; (try clear ww); intro bb ww hS) | (refine w_al rfl rfl hS ?_; clear hS; (try clear ww); intro bb ww hS) | (refine w_st rfl _ _ rfl (by rfl) (by rfl) (by repeat constructor) (by rfl) (by rfl) (by first | rfl | assumption) hS ?_; clear hS; (try clear ww); intro ww hS) | (refine w_s1 rfl _ _ rfl (by rfl) (by repeat constructor) (by first | exact .c | exact .t rfl) (by rfl) (by repeat constructor) hS ?_; clear hS; (try clear ww); intro ww hS))
  go_ret
  exact ⟨rfl, bthen HB0.out hS.below⟩

set_option maxHeartbeats 8000000 in
set_option maxRecDepth 100000 in
theorem right_font (F : Fnt) (l : Int) (c : Bool) (n : Nat) (C : Int) (kids : List (Bx (n + 1))) (kx : Option Addr) (kc : Nat) (w : World) (hF : FntOk w F) (hk : RepL w (n + 1) kx kids) (hm : kids.length ≤ maxLen) (h0 : fewX F n kids = true) (hv : ¬ ValidF F) : Calls Try.prog 13 #[.agg (caseX F l c).toArray, .int .i64 C, .slice kx kids.length kc] w (Gives (.bool false) w) := by
  have HFW := Lib.hid (fun w' (h : Below w.heap.size w w') => few37_calls F l c n kids kx kc w' (hF.below h) (hk.step h) hm true h0.symm)
  obtain ⟨hq, hl3, hc3⟩ := fewX_out h0
  have HV5 := Lib.hid (fun w' (h : Below w.heap.size w w') => ref05_Valid_calls F w' (hF.below h) hq _ (iff_f hv))
  clear hF hk hm h0 hv hq hl3 hc3
  go_enter Try.func13, Try.ntmps13
  have hS := own_start w
  go_wp2_with (first | (refine own_unguard (by rfl) ?_) | (refine own_box rfl _ _ rfl rfl hS ?_; clear hS; intro kb w0 hS0; have hrC := (hS0.get at0).range; have HB0 := Lib.hid hS0.below; obtain ⟨hrF, hrS⟩ := caseX_out hrC; have hS := own_start w0; clear hS0) | (refine own_load_old rfl _ _ rfl rfl hS hrC List.not_mem_nil rt_case37 ?_) | (refine own_load_old rfl _ _ rfl rfl hS hrF List.not_mem_nil rt_font ?_) | (refine own_load_old rfl _ _ rfl rfl hS hrS List.not_mem_nil rt_style ?_) | (go_at_call 9; refine own_calls hS (HFW.out _ (bthen HB0.out hS.below)) ?_; clear hS; (try clear ww); intro ww hS) | (go_at_call 35; refine own_calls hS (HV5.out _ (bthen HB0.out hS.below)) ?_; clear hS; (try clear ww); intro ww hS) | (refine w_ld rfl _ rfl (by rfl) (by first | exact rd_1 (by repeat constructor) (by first | rfl | assumption) | exact rd_w (by repeat constructor) (by rfl) | exact rd_o (by assumption) (by rfl) (by first | exact nmn | assumption | simp) | exact rd_h (by assumption) (by rfl) (by first | exact nmn | assumption | simp) | exact rd_1o (by assumption) (by first | exact nmn | assumption | simp) | exact rd_1h (by assumption) (by first | rfl | assumption) (by first | exact nmn | assumption | simp)) hS ?_) | (refine own_box rfl _ _ rfl (by rfl) hS ?_; clear hS; (try clear ww); intro bb ww hS) | (refine w_al rfl rfl hS ?_; clear hS; (try clear ww); intro bb ww hS) | (refine w_st rfl _ _ rfl (by rfl) (by rfl) (by repeat constructor) (by rfl) (by rfl) (by first | rfl | assumption) hS ?_; clear hS; (try clear ww); intro ww hS) | (refine w_s1 rfl _ _ rfl (by rfl) (by repeat constructor) (by first | exact .c | exact .t rfl) (by rfl) (by repeat constructor) hS ?_; clear hS; (try clear ww); intro ww hS))
  go_ret
  exact ⟨rfl, bthen HB0.out hS.below⟩

set_option maxHeartbeats 8000000 in
set_option maxRecDepth 100000 in
theorem right_style (F : Fnt) (l : Int) (c : Bool) (n : Nat) (C : Int) (kids : List (Bx (n + 1))) (kx : Option Addr) (kc : Nat) (w : World) (hF : FntOk w F) (hk : RepL w (n + 1) kx kids) (hm : kids.length ≤ maxLen) (h0 : fewX F n kids = true) (hv : ValidF F) (hlv : lvlOk l = false) : Calls Try.prog 13 #[.agg (caseX F l c).toArray, .int .i64 C, .slice kx kids.length kc] w (Gives (.bool false) w) := by
  have HFW := Lib.hid (fun w' (h : Below w.heap.size w w') => few37_calls F l c n kids kx kc w' (hF.below h) (hk.step h) hm true h0.symm)
  obtain ⟨hq, hl3, hc3⟩ := fewX_out h0
  have HV5 := Lib.hid (fun w' (h : Below w.heap.size w w') => ref05_Valid_calls F w' (hF.below h) hq _ (iff_t hv))
  have HL := Lib.hid hlv
  clear hF hk hm h0 hv hq hl3 hc3 hlv
  go_enter Try.func13, Try.ntmps13
  have hS := own_start w
  go_wp2_with (first | (refine own_unguard (by rfl) ?_) | (refine own_box rfl _ _ rfl rfl hS ?_; clear hS; intro kb w0 hS0; have hrC := (hS0.get at0).range; have HB0 := Lib.hid hS0.below; obtain ⟨hrF, hrS⟩ := caseX_out hrC; have hS := own_start w0; clear hS0) | (refine own_load_old rfl _ _ rfl rfl hS hrC List.not_mem_nil rt_case37 ?_) | (refine own_load_old rfl _ _ rfl rfl hS hrF List.not_mem_nil rt_font ?_) | (refine own_load_old rfl _ _ rfl rfl hS hrS List.not_mem_nil rt_style ?_) | (go_at_call 9; refine own_calls hS (HFW.out _ (bthen HB0.out hS.below)) ?_; clear hS; (try clear ww); intro ww hS) | (go_at_call 35; refine own_calls hS (HV5.out _ (bthen HB0.out hS.below)) ?_; clear hS; (try clear ww); intro ww hS) | (go_at_call 36; refine own_calls hS (ref25_Valid_v HL) ?_; clear hS; (try clear ww); intro ww hS) | (refine w_ld rfl _ rfl (by rfl) (by first | exact rd_1 (by repeat constructor) (by first | rfl | assumption) | exact rd_w (by repeat constructor) (by rfl) | exact rd_o (by assumption) (by rfl) (by first | exact nmn | assumption | simp) | exact rd_h (by assumption) (by rfl) (by first | exact nmn | assumption | simp) | exact rd_1o (by assumption) (by first | exact nmn | assumption | simp) | exact rd_1h (by assumption) (by first | rfl | assumption) (by first | exact nmn | assumption | simp)) hS ?_) | (refine own_box rfl _ _ rfl (by rfl) hS ?_; clear hS; (try clear ww); intro bb ww hS) | (refine w_al rfl rfl hS ?_; clear hS; (try clear ww); intro bb ww hS) | (refine w_st rfl _ _ rfl (by rfl) (by rfl) (by repeat constructor) (by rfl) (by rfl) (by first | rfl | assumption) hS ?_; clear hS; (try clear ww); intro ww hS) | (refine w_s1 rfl _ _ rfl (by rfl) (by repeat constructor) (by first | exact .c | exact .t rfl) (by rfl) (by repeat constructor) hS ?_; clear hS; (try clear ww); intro ww hS))
  go_ret
  exact ⟨rfl, bthen HB0.out hS.below⟩

set_option maxHeartbeats 8000000 in
set_option maxRecDepth 100000 in
theorem right_c1 (F : Fnt) (l : Int) (c : Bool) (n : Nat) (C : Int) (kids : List (Bx (n + 1))) (kx : Option Addr) (kc : Nat) (w : World) (hF : FntOk w F) (hk : RepL w (n + 1) kx kids) (hm : kids.length ≤ maxLen) (h0 : fewX F n kids = true) (hv : ValidF F) (hlv : lvlOk l = true) (h3 : C < 1) : Calls Try.prog 13 #[.agg (caseX F l c).toArray, .int .i64 C, .slice kx kids.length kc] w (Gives (.bool false) w) := by
  have HFW := Lib.hid (fun w' (h : Below w.heap.size w w') => few37_calls F l c n kids kx kc w' (hF.below h) (hk.step h) hm true h0.symm)
  obtain ⟨hq, hl3, hc3⟩ := fewX_out h0
  have HV5 := Lib.hid (fun w' (h : Below w.heap.size w w') => ref05_Valid_calls F w' (hF.below h) hq _ (iff_t hv))
  have HL := Lib.hid hlv
  have d3 : decide (C < 1) = true := decide_eq_true h3
  clear hF hk hm h0 hv hq hl3 hc3 hlv h3
  go_enter Try.func13, Try.ntmps13
  have hS := own_start w
  go_wp2_with (first | (refine own_unguard (by rfl) ?_) | (refine own_box rfl _ _ rfl rfl hS ?_; clear hS; intro kb w0 hS0; have hrC := (hS0.get at0).range; have HB0 := Lib.hid hS0.below; obtain ⟨hrF, hrS⟩ := caseX_out hrC; have hS := own_start w0; clear hS0) | (refine own_load_old rfl _ _ rfl rfl hS hrC List.not_mem_nil rt_case37 ?_) | (refine own_load_old rfl _ _ rfl rfl hS hrF List.not_mem_nil rt_font ?_) | (refine own_load_old rfl _ _ rfl rfl hS hrS List.not_mem_nil rt_style ?_) | (go_at_call 9; refine own_calls hS (HFW.out _ (bthen HB0.out hS.below)) ?_; clear hS; (try clear ww); intro ww hS) | (go_at_call 35; refine own_calls hS (HV5.out _ (bthen HB0.out hS.below)) ?_; clear hS; (try clear ww); intro ww hS) | (go_at_call 36; refine own_calls hS (ref25_Valid_v HL) ?_; clear hS; (try clear ww); intro ww hS) | (refine w_ld rfl _ rfl (by rfl) (by first | exact rd_1 (by repeat constructor) (by first | rfl | assumption) | exact rd_w (by repeat constructor) (by rfl) | exact rd_o (by assumption) (by rfl) (by first | exact nmn | assumption | simp) | exact rd_h (by assumption) (by rfl) (by first | exact nmn | assumption | simp) | exact rd_1o (by assumption) (by first | exact nmn | assumption | simp) | exact rd_1h (by assumption) (by first | rfl | assumption) (by first | exact nmn | assumption | simp)) hS ?_) | (refine own_box rfl _ _ rfl (by rfl) hS ?_; clear hS; (try clear ww); intro bb ww hS) | (refine w_al rfl rfl hS ?_; clear hS; (try clear ww); intro bb ww hS) | (refine w_st rfl _ _ rfl (by rfl) (by rfl) (by repeat constructor) (by rfl) (by rfl) (by first | rfl | assumption) hS ?_; clear hS; (try clear ww); intro ww hS) | (refine w_s1 rfl _ _ rfl (by rfl) (by repeat constructor) (by first | exact .c | exact .t rfl) (by rfl) (by repeat constructor) hS ?_; clear hS; (try clear ww); intro ww hS))
  go_ret
  exact ⟨rfl, bthen HB0.out hS.below⟩

set_option maxHeartbeats 8000000 in
set_option maxRecDepth 100000 in
theorem right_c16 (F : Fnt) (l : Int) (c : Bool) (n : Nat) (C : Int) (kids : List (Bx (n + 1))) (kx : Option Addr) (kc : Nat) (w : World) (hF : FntOk w F) (hk : RepL w (n + 1) kx kids) (hm : kids.length ≤ maxLen) (h0 : fewX F n kids = true) (hv : ValidF F) (hlv : lvlOk l = true) (_h3 : 1 ≤ C) (h4 : 16 < C) : Calls Try.prog 13 #[.agg (caseX F l c).toArray, .int .i64 C, .slice kx kids.length kc] w (Gives (.bool false) w) := by
  have HFW := Lib.hid (fun w' (h : Below w.heap.size w w') => few37_calls F l c n kids kx kc w' (hF.below h) (hk.step h) hm true h0.symm)
  obtain ⟨hq, hl3, hc3⟩ := fewX_out h0
  have HV5 := Lib.hid (fun w' (h : Below w.heap.size w w') => ref05_Valid_calls F w' (hF.below h) hq _ (iff_t hv))
  have HL := Lib.hid hlv
  have d3 : decide (C < 1) = false := decide_eq_false (by omega)
  have d4 : decide (16 < C) = true := decide_eq_true h4
  clear hF hk hm h0 hv hq hl3 hc3 hlv _h3 h4
  go_enter Try.func13, Try.ntmps13
  have hS := own_start w
  go_wp2_with (first | (refine own_unguard (by rfl) ?_) | (refine own_box rfl _ _ rfl rfl hS ?_; clear hS; intro kb w0 hS0; have hrC := (hS0.get at0).range; have HB0 := Lib.hid hS0.below; obtain ⟨hrF, hrS⟩ := caseX_out hrC; have hS := own_start w0; clear hS0) | (refine own_load_old rfl _ _ rfl rfl hS hrC List.not_mem_nil rt_case37 ?_) | (refine own_load_old rfl _ _ rfl rfl hS hrF List.not_mem_nil rt_font ?_) | (refine own_load_old rfl _ _ rfl rfl hS hrS List.not_mem_nil rt_style ?_) | (go_at_call 9; refine own_calls hS (HFW.out _ (bthen HB0.out hS.below)) ?_; clear hS; (try clear ww); intro ww hS) | (go_at_call 35; refine own_calls hS (HV5.out _ (bthen HB0.out hS.below)) ?_; clear hS; (try clear ww); intro ww hS) | (go_at_call 36; refine own_calls hS (ref25_Valid_v HL) ?_; clear hS; (try clear ww); intro ww hS) | (refine w_ld rfl _ rfl (by rfl) (by first | exact rd_1 (by repeat constructor) (by first | rfl | assumption) | exact rd_w (by repeat constructor) (by rfl) | exact rd_o (by assumption) (by rfl) (by first | exact nmn | assumption | simp) | exact rd_h (by assumption) (by rfl) (by first | exact nmn | assumption | simp) | exact rd_1o (by assumption) (by first | exact nmn | assumption | simp) | exact rd_1h (by assumption) (by first | rfl | assumption) (by first | exact nmn | assumption | simp)) hS ?_) | (refine own_box rfl _ _ rfl (by rfl) hS ?_; clear hS; (try clear ww); intro bb ww hS) | (refine w_al rfl rfl hS ?_; clear hS; (try clear ww); intro bb ww hS) | (refine w_st rfl _ _ rfl (by rfl) (by rfl) (by repeat constructor) (by rfl) (by rfl) (by first | rfl | assumption) hS ?_; clear hS; (try clear ww); intro ww hS) | (refine w_s1 rfl _ _ rfl (by rfl) (by repeat constructor) (by first | exact .c | exact .t rfl) (by rfl) (by repeat constructor) hS ?_; clear hS; (try clear ww); intro ww hS))
  go_ret
  exact ⟨rfl, bthen HB0.out hS.below⟩

set_option maxHeartbeats 8000000 in
set_option maxRecDepth 100000 in
theorem right_n1 (F : Fnt) (l : Int) (c : Bool) (n : Nat) (C : Int) (kids : List (Bx (n + 1))) (kx : Option Addr) (kc : Nat) (w : World) (hF : FntOk w F) (hk : RepL w (n + 1) kx kids) (hm : kids.length ≤ maxLen) (h0 : fewX F n kids = true) (hv : ValidF F) (hlv : lvlOk l = true) (h3 : 1 ≤ C) (h4 : C ≤ 16) (h5 : kids.length = 0) : Calls Try.prog 13 #[.agg (caseX F l c).toArray, .int .i64 C, .slice kx kids.length kc] w (Gives (.bool false) w) := by
  have HFW := Lib.hid (fun w' (h : Below w.heap.size w w') => few37_calls F l c n kids kx kc w' (hF.below h) (hk.step h) hm true h0.symm)
  obtain ⟨hq, hl3, hc3⟩ := fewX_out h0
  have HV5 := Lib.hid (fun w' (h : Below w.heap.size w w') => ref05_Valid_calls F w' (hF.below h) hq _ (iff_t hv))
  have HL := Lib.hid hlv
  have d3 : decide (C < 1) = false := decide_eq_false (by omega)
  have d4 : decide (16 < C) = false := decide_eq_false (by omega)
  have d5 : decide ((kids.length : Int) = 0) = true := decide_eq_true (by omega)
  have e5 : ((kids.length : Int) == 0) = true := beq_iff_eq.2 (by omega)
  clear hF hk hm h0 hv hq hl3 hc3 hlv h3 h4 h5
  go_enter Try.func13, Try.ntmps13
  have hS := own_start w
  go_wp2_with (first | (refine own_unguard (by rfl) ?_) | (refine own_box rfl _ _ rfl rfl hS ?_; clear hS; intro kb w0 hS0; have hrC := (hS0.get at0).range; have HB0 := Lib.hid hS0.below; obtain ⟨hrF, hrS⟩ := caseX_out hrC; have hS := own_start w0; clear hS0) | (refine own_load_old rfl _ _ rfl rfl hS hrC List.not_mem_nil rt_case37 ?_) | (refine own_load_old rfl _ _ rfl rfl hS hrF List.not_mem_nil rt_font ?_) | (refine own_load_old rfl _ _ rfl rfl hS hrS List.not_mem_nil rt_style ?_) | (go_at_call 9; refine own_calls hS (HFW.out _ (bthen HB0.out hS.below)) ?_; clear hS; (try clear ww); intro ww hS) | (go_at_call 35; refine own_calls hS (HV5.out _ (bthen HB0.out hS.below)) ?_; clear hS; (try clear ww); intro ww hS) | (go_at_call 36; refine own_calls hS (ref25_Valid_v HL) ?_; clear hS; (try clear ww); intro ww hS) | (refine w_ld rfl _ rfl (by rfl) (by first | exact rd_1 (by repeat constructor) (by first | rfl | assumption) | exact rd_w (by repeat constructor) (by rfl) | exact rd_o (by assumption) (by rfl) (by first | exact nmn | assumption | simp) | exact rd_h (by assumption) (by rfl) (by first | exact nmn | assumption | simp) | exact rd_1o (by assumption) (by first | exact nmn | assumption | simp) | exact rd_1h (by assumption) (by first | rfl | assumption) (by first | exact nmn | assumption | simp)) hS ?_) | (refine own_box rfl _ _ rfl (by rfl) hS ?_; clear hS; (try clear ww); intro bb ww hS) | (refine w_al rfl rfl hS ?_; clear hS; (try clear ww); intro bb ww hS) | (refine w_st rfl _ _ rfl (by rfl) (by rfl) (by repeat constructor) (by rfl) (by rfl) (by first | rfl | assumption) hS ?_; clear hS; (try clear ww); intro ww hS) | (refine w_s1 rfl _ _ rfl (by rfl) (by repeat constructor) (by first | exact .c | exact .t rfl) (by rfl) (by repeat constructor) hS ?_; clear hS; (try clear ww); intro ww hS))
  go_ret
  exact ⟨rfl, bthen HB0.out hS.below⟩

set_option maxHeartbeats 8000000 in
set_option maxRecDepth 100000 in
theorem right_n256 (F : Fnt) (l : Int) (c : Bool) (n : Nat) (C : Int) (kids : List (Bx (n + 1))) (kx : Option Addr) (kc : Nat) (w : World) (hF : FntOk w F) (hk : RepL w (n + 1) kx kids) (hm : kids.length ≤ maxLen) (h0 : fewX F n kids = true) (hv : ValidF F) (hlv : lvlOk l = true) (h3 : 1 ≤ C) (h4 : C ≤ 16) (_h5 : 1 ≤ kids.length) (h6 : 256 < kids.length) : Calls Try.prog 13 #[.agg (caseX F l c).toArray, .int .i64 C, .slice kx kids.length kc] w (Gives (.bool false) w) := by
  have HFW := Lib.hid (fun w' (h : Below w.heap.size w w') => few37_calls F l c n kids kx kc w' (hF.below h) (hk.step h) hm true h0.symm)
  obtain ⟨hq, hl3, hc3⟩ := fewX_out h0
  have HV5 := Lib.hid (fun w' (h : Below w.heap.size w w') => ref05_Valid_calls F w' (hF.below h) hq _ (iff_t hv))
  have HL := Lib.hid hlv
  have d3 : decide (C < 1) = false := decide_eq_false (by omega)
  have d4 : decide (16 < C) = false := decide_eq_false (by omega)
  have d5 : decide ((kids.length : Int) = 0) = false := decide_eq_false (by omega)
  have e5 : ((kids.length : Int) == 0) = false := beq_eq_false_iff_ne.2 (by omega)
  have d6 : decide ((256 : Int) < (kids.length : Int)) = true := decide_eq_true (by omega)
  clear hF hk hm h0 hv hq hl3 hc3 hlv h3 h4 _h5 h6
  go_enter Try.func13, Try.ntmps13
  have hS := own_start w
  go_wp2_with (first | (refine own_unguard (by rfl) ?_) | (refine own_box rfl _ _ rfl rfl hS ?_; clear hS; intro kb w0 hS0; have hrC := (hS0.get at0).range; have HB0 := Lib.hid hS0.below; obtain ⟨hrF, hrS⟩ := caseX_out hrC; have hS := own_start w0; clear hS0) | (refine own_load_old rfl _ _ rfl rfl hS hrC List.not_mem_nil rt_case37 ?_) | (refine own_load_old rfl _ _ rfl rfl hS hrF List.not_mem_nil rt_font ?_) | (refine own_load_old rfl _ _ rfl rfl hS hrS List.not_mem_nil rt_style ?_) | (go_at_call 9; refine own_calls hS (HFW.out _ (bthen HB0.out hS.below)) ?_; clear hS; (try clear ww); intro ww hS) | (go_at_call 35; refine own_calls hS (HV5.out _ (bthen HB0.out hS.below)) ?_; clear hS; (try clear ww); intro ww hS) | (go_at_call 36; refine own_calls hS (ref25_Valid_v HL) ?_; clear hS; (try clear ww); intro ww hS) | (refine w_ld rfl _ rfl (by rfl) (by first | exact rd_1 (by repeat constructor) (by first | rfl | assumption) | exact rd_w (by repeat constructor) (by rfl) | exact rd_o (by assumption) (by rfl) (by first | exact nmn | assumption | simp) | exact rd_h (by assumption) (by rfl) (by first | exact nmn | assumption | simp) | exact rd_1o (by assumption) (by first | exact nmn | assumption | simp) | exact rd_1h (by assumption) (by first | rfl | assumption) (by first | exact nmn | assumption | simp)) hS ?_) | (refine own_box rfl _ _ rfl (by rfl) hS ?_; clear hS; (try clear ww); intro bb ww hS) | (refine w_al rfl rfl hS ?_; clear hS; (try clear ww); intro bb ww hS) | (refine w_st rfl _ _ rfl (by rfl) (by rfl) (by repeat constructor) (by rfl) (by rfl) (by first | rfl | assumption) hS ?_; clear hS; (try clear ww); intro ww hS) | (refine w_s1 rfl _ _ rfl (by rfl) (by repeat constructor) (by first | exact .c | exact .t rfl) (by rfl) (by repeat constructor) hS ?_; clear hS; (try clear ww); intro ww hS))
  go_ret
  exact ⟨rfl, bthen HB0.out hS.below⟩

set_option maxHeartbeats 8000000 in
set_option maxRecDepth 100000 in
theorem right_rem (F : Fnt) (l : Int) (c : Bool) (n : Nat) (C : Int) (kids : List (Bx (n + 1))) (kx : Option Addr) (kc : Nat) (w : World) (hF : FntOk w F) (hk : RepL w (n + 1) kx kids) (hm : kids.length ≤ maxLen) (h0 : fewX F n kids = true) (hv : ValidF F) (hlv : lvlOk l = true) (h3 : 1 ≤ C) (h4 : C ≤ 16) (h5 : 1 ≤ kids.length) (h6 : kids.length ≤ 256) (h7 : (kids.length : Int) % C ≠ 0) : Calls Try.prog 13 #[.agg (caseX F l c).toArray, .int .i64 C, .slice kx kids.length kc] w (Gives (.bool false) w) := by
  have HFW := Lib.hid (fun w' (h : Below w.heap.size w w') => few37_calls F l c n kids kx kc w' (hF.below h) (hk.step h) hm true h0.symm)
  obtain ⟨hq, hl3, hc3⟩ := fewX_out h0
  have HV5 := Lib.hid (fun w' (h : Below w.heap.size w w') => ref05_Valid_calls F w' (hF.below h) hq _ (iff_t hv))
  have HL := Lib.hid hlv
  have d3 : decide (C < 1) = false := decide_eq_false (by omega)
  have d4 : decide (16 < C) = false := decide_eq_false (by omega)
  have d5 : decide ((kids.length : Int) = 0) = false := decide_eq_false (by omega)
  have e5 : ((kids.length : Int) == 0) = false := beq_eq_false_iff_ne.2 (by omega)
  have d6 : decide ((256 : Int) < (kids.length : Int)) = false := decide_eq_false (by omega)
  obtain ⟨K, rfl⟩ : ∃ K : Nat, C = (K : Int) := ⟨C.toNat, by omega⟩
  have t7 : ((kids.length : Int).tmod (K : Int)) = (kids.length : Int) % (K : Int) := Int.tmod_eq_emod_of_nonneg (by omega)
  have z7 : (K : Int) ≠ 0 := by omega
  have zz7 : ¬ K = 0 := by omega
  have d7 : ((kids.length : Int) % (K : Int) != 0) = true := bne_iff_ne.2 h7
  clear hF hk hm h0 hv hq hl3 hc3 hlv h3 h4 h5 h6 h7
  go_enter Try.func13, Try.ntmps13
  have hS := own_start w
  go_wp2_with (first | (refine own_unguard (by rfl) ?_) | (refine own_box rfl _ _ rfl rfl hS ?_; clear hS; intro kb w0 hS0; have hrC := (hS0.get at0).range; have HB0 := Lib.hid hS0.below; obtain ⟨hrF, hrS⟩ := caseX_out hrC; have hS := own_start w0; clear hS0) | (refine own_load_old rfl _ _ rfl rfl hS hrC List.not_mem_nil rt_case37 ?_) | (refine own_load_old rfl _ _ rfl rfl hS hrF List.not_mem_nil rt_font ?_) | (refine own_load_old rfl _ _ rfl rfl hS hrS List.not_mem_nil rt_style ?_) | (go_at_call 9; refine own_calls hS (HFW.out _ (bthen HB0.out hS.below)) ?_; clear hS; (try clear ww); intro ww hS) | (go_at_call 35; refine own_calls hS (HV5.out _ (bthen HB0.out hS.below)) ?_; clear hS; (try clear ww); intro ww hS) | (go_at_call 36; refine own_calls hS (ref25_Valid_v HL) ?_; clear hS; (try clear ww); intro ww hS) | (refine w_ld rfl _ rfl (by rfl) (by first | exact rd_1 (by repeat constructor) (by first | rfl | assumption) | exact rd_w (by repeat constructor) (by rfl) | exact rd_o (by assumption) (by rfl) (by first | exact nmn | assumption | simp) | exact rd_h (by assumption) (by rfl) (by first | exact nmn | assumption | simp) | exact rd_1o (by assumption) (by first | exact nmn | assumption | simp) | exact rd_1h (by assumption) (by first | rfl | assumption) (by first | exact nmn | assumption | simp)) hS ?_) | (refine own_box rfl _ _ rfl (by rfl) hS ?_; clear hS; (try clear ww); intro bb ww hS) | (refine w_al rfl rfl hS ?_; clear hS; (try clear ww); intro bb ww hS) | (refine w_st rfl _ _ rfl (by rfl) (by rfl) (by repeat constructor) (by rfl) (by rfl) (by first | rfl | assumption) hS ?_; clear hS; (try clear ww); intro ww hS) | (refine w_s1 rfl _ _ rfl (by rfl) (by repeat constructor) (by first | exact .c | exact .t rfl) (by rfl) (by repeat constructor) hS ?_; clear hS; (try clear ww); intro ww hS))
  go_ret
  exact ⟨rfl, bthen HB0.out hS.below⟩

set_option maxHeartbeats 8000000 in
set_option maxRecDepth 100000 in
theorem right_cells (F : Fnt) (l : Int) (c : Bool) (n : Nat) (C : Int) (kids : List (Bx (n + 1))) (kx : Option Addr) (kc : Nat) (w : World) (hF : FntOk w F) (hk : RepL w (n + 1) kx kids) (hm : kids.length ≤ maxLen) (h0 : fewX F n kids = true) (hv : ValidF F) (hlv : lvlOk l = true) (h3 : 1 ≤ C) (h4 : C ≤ 16) (h5 : 1 ≤ kids.length) (h6 : kids.length ≤ 256) (h7 : (kids.length : Int) % C = 0) (v : Bool) (hvv : v = true ↔ ∀ k ∈ kids, CellOk n k) : Calls Try.prog 13 #[.agg (caseX F l c).toArray, .int .i64 C, .slice kx kids.length kc] w (Gives (.bool v) w) := by
  have HVV := Lib.hid hvv
  clear hvv
  have HFW := Lib.hid (fun w' (h : Below w.heap.size w w') => few37_calls F l c n kids kx kc w' (hF.below h) (hk.step h) hm true h0.symm)
  obtain ⟨hq, hl3, hc3⟩ := fewX_out h0
  have HV5 := Lib.hid (fun w' (h : Below w.heap.size w w') => ref05_Valid_calls F w' (hF.below h) hq _ (iff_t hv))
  have HL := Lib.hid hlv
  have HK := Lib.hid hk
  have d3 : decide (C < 1) = false := decide_eq_false (by omega)
  have d4 : decide (16 < C) = false := decide_eq_false (by omega)
  have d5 : decide ((kids.length : Int) = 0) = false := decide_eq_false (by omega)
  have e5 : ((kids.length : Int) == 0) = false := beq_eq_false_iff_ne.2 (by omega)
  have d6 : decide ((256 : Int) < (kids.length : Int)) = false := decide_eq_false (by omega)
  obtain ⟨K, rfl⟩ : ∃ K : Nat, C = (K : Int) := ⟨C.toNat, by omega⟩
  have t7 : ((kids.length : Int).tmod (K : Int)) = (kids.length : Int) % (K : Int) := Int.tmod_eq_emod_of_nonneg (by omega)
  have z7 : (K : Int) ≠ 0 := by omega
  have zz7 : ¬ K = 0 := by omega
  have d7 : (kids.length : Int) % (K : Int) = 0 := h7
  have HC := Lib.hid hc3
  clear hc3 hF hk hm h0 hv hq hlv h3 h4 h5 h6
  go_enter Try.func13, Try.ntmps13
  have hS := own_start w
  go_wp2_with (first | (refine own_unguard (by rfl) ?_) | (refine own_box rfl _ _ rfl rfl hS ?_; clear hS; intro kb w0 hS0; have hrC := (hS0.get at0).range; have HB0 := Lib.hid hS0.below; obtain ⟨hrF, hrS⟩ := caseX_out hrC; have hS := own_start w0; clear hS0) | (refine own_load_old rfl _ _ rfl rfl hS hrC List.not_mem_nil rt_case37 ?_) | (refine own_load_old rfl _ _ rfl rfl hS hrF List.not_mem_nil rt_font ?_) | (refine own_load_old rfl _ _ rfl rfl hS hrS List.not_mem_nil rt_style ?_) | (go_at_call 9; refine own_calls hS (HFW.out _ (bthen HB0.out hS.below)) ?_; clear hS; (try clear ww); intro ww hS) | (go_at_call 35; refine own_calls hS (HV5.out _ (bthen HB0.out hS.below)) ?_; clear hS; (try clear ww); intro ww hS) | (go_at_call 36; refine own_calls hS (ref25_Valid_v HL) ?_; clear hS; (try clear ww); intro ww hS) | (refine w_ld rfl _ rfl (by rfl) (by first | exact rd_1 (by repeat constructor) (by first | rfl | assumption) | exact rd_w (by repeat constructor) (by rfl) | exact rd_o (by assumption) (by rfl) (by first | exact nmn | assumption | simp) | exact rd_h (by assumption) (by rfl) (by first | exact nmn | assumption | simp) | exact rd_1o (by assumption) (by first | exact nmn | assumption | simp) | exact rd_1h (by assumption) (by first | rfl | assumption) (by first | exact nmn | assumption | simp)) hS ?_) | (refine own_box rfl _ _ rfl (by rfl) hS ?_; clear hS; (try clear ww); intro bb ww hS) | (refine w_al rfl rfl hS ?_; clear hS; (try clear ww); intro bb ww hS) | (refine w_st rfl _ _ rfl (by rfl) (by rfl) (by repeat constructor) (by rfl) (by rfl) (by first | rfl | assumption) hS ?_; clear hS; (try clear ww); intro ww hS) | (refine w_s1 rfl _ _ rfl (by rfl) (by repeat constructor) (by first | exact .c | exact .t rfl) (by rfl) (by repeat constructor) hS ?_; clear hS; (try clear ww); intro ww hS))
  obtain ⟨L0, HL0, hS0⟩ := hS.named
  clear hS
  have hS := hS0
  clear hS0
  go_loopw [7] (fun i wr => ∃ j : Nat, j ≤ kids.length ∧ i = .int .i64 j ∧ (∀ k ∈ kids.take j, CellOk n k) ∧ Own [] w0 L0 wr) (fun i _ => kids.length - (intOf i).toNat)
  case atStart => exact ⟨0, Nat.zero_le _, rfl, by simp, hS⟩
  case round =>
    clear hS
    obtain ⟨j, hj, rfl, hf, hS⟩ := hrel
    obtain rfl := HL0.out
    clear HL0
    have HFo := Lib.hid hf
    clear hf
    by_cases hlt : j < kids.length
    · obtain ⟨kid, hkid⟩ : ∃ kid, kids[j]? = some kid := ⟨kids[j], by simp [hlt]⟩
      obtain ⟨kb2, ko, css, hkx, hrg0, hrep0⟩ := HK.out j kid hkid
      have hrg := rangeAt_below hrg0 HB0.out
      have hrep := hrep0.step HB0.out
      clear hrg0 hrep0
      obtain rfl : kx = some ⟨kb2, ko, none⟩ := hkx
      have hcc : bCount (n + 1) kid ≤ 1000000 := by have := HC.out kid (List.mem_of_getElem? hkid); omega
      by_cases k0 : validB (n + 1) kid
      · by_cases k1 : bNested (n + 1) kid ≤ 90
        · by_cases k2 : max (max kid.1.w kid.1.h) kid.1.d ≤ 1048576
          · by_cases k3 : -1048576 ≤ min (min kid.1.w kid.1.h) kid.1.d
            · have HF2 := Lib.hid (show ∀ k ∈ kids.take (j + 1), CellOk n k by
                rw [List.take_add_one, hkid]
                intro k hk
                rcases List.mem_append.1 hk with h | h
                · exact HFo.out k h
                · obtain rfl : k = kid := by simpa using h
                  exact ⟨k0, k1, k2, k3⟩)
              have HVb := Lib.hid (fun w' (h : Below w0.heap.size w0 w') => ref28_Valid_calls (n + 1) kid _ w' (hrep.step h) hrep.wide hcc _ (iff_t k0))
              have HNb := Lib.hid (fun w' (h : Below w0.heap.size w0 w') => ref28_Nested_calls (n + 1) kid _ w' (hrep.step h) hcc)
              have f1 : decide ((90 : Int) < (bNested (n + 1) kid : Int)) = false := decide_eq_false (by omega)
              obtain ⟨qx, qc, rx, rc, rfl, _⟩ := rep_out hrep
              obtain ⟨mx, hmx⟩ : ∃ z, z = max (max kid.1.w kid.1.h) kid.1.d := ⟨_, rfl⟩
              have fM := fun (w : World) (ts : Array TypeId) (t : TypeId) => hmx ▸ run_max3 (P := Try.prog) kid.1.w kid.1.h kid.1.d w ts t
              have f2 : decide ((1048576 : Int) < mx) = false := decide_eq_false (by omega)
              obtain ⟨mn, hmn⟩ : ∃ z, z = min (min kid.1.w kid.1.h) kid.1.d := ⟨_, rfl⟩
              have fm := fun (w : World) (ts : Array TypeId) (t : TypeId) => hmn ▸ run_min3 (P := Try.prog) kid.1.w kid.1.h kid.1.d w ts t
              have f3 : decide (mn < (-1048576 : Int)) = false := decide_eq_false (by omega)
              clear hrep hcc hkid k0 k1 k2 hmx k3 hmn
              go_wp2_with (first | (refine own_unguard (by rfl) ?_) | (refine w_al rfl rfl hS ?_; clear hS; (try clear ww); intro bb ww hS) | (refine own_store rfl _ _ _ rfl rfl rfl hS at0 rt_box (by rfl) (by assumption) ?_; clear hS; (try clear ww); intro ww hS; (try simp only [List.set_cons_zero] at hS)) | (go_at_call 33; refine own_calls hS (HVb.out _ hS.below) ?_; clear hS; (try clear ww); intro ww hS) | (go_at_call 37; refine own_calls hS (HNb.out _ hS.below) ?_; clear hS; (try clear ww); intro ww hS) | (refine w_ld rfl _ rfl (by rfl) (by first | exact rd_1 (by repeat constructor) (by first | rfl | assumption) | exact rd_w (by repeat constructor) (by rfl) | exact rd_o (by assumption) (by rfl) (by first | exact nmn | assumption | simp) | exact rd_h (by assumption) (by rfl) (by first | exact nmn | assumption | simp) | exact rd_1o (by assumption) (by first | exact nmn | assumption | simp) | exact rd_1h (by assumption) (by first | rfl | assumption) (by first | exact nmn | assumption | simp)) hS ?_) | (refine own_box rfl _ _ rfl (by rfl) hS ?_; clear hS; (try clear ww); intro bb ww hS) | (refine w_al rfl rfl hS ?_; clear hS; (try clear ww); intro bb ww hS) | (refine w_st rfl _ _ rfl (by rfl) (by rfl) (by repeat constructor) (by rfl) (by rfl) (by first | rfl | assumption) hS ?_; clear hS; (try clear ww); intro ww hS) | (refine w_s1 rfl _ _ rfl (by rfl) (by repeat constructor) (by first | exact .c | exact .t rfl) (by rfl) (by repeat constructor) hS ?_; clear hS; (try clear ww); intro ww hS))
              go_roundw
              case rel => exact ⟨j + 1, hlt, by go_num, HF2.out, hS.forget (by simp)⟩
              case measure => exact loop_meas hlt
            · obtain rfl : v = false := by cases hvv : v; rfl; exact absurd ((HVV.out.1 hvv) kid (List.mem_of_getElem? hkid)) (fun h => k3 h.2.2.2)
              have HVb := Lib.hid (fun w' (h : Below w0.heap.size w0 w') => ref28_Valid_calls (n + 1) kid _ w' (hrep.step h) hrep.wide hcc _ (iff_t k0))
              have HNb := Lib.hid (fun w' (h : Below w0.heap.size w0 w') => ref28_Nested_calls (n + 1) kid _ w' (hrep.step h) hcc)
              have f1 : decide ((90 : Int) < (bNested (n + 1) kid : Int)) = false := decide_eq_false (by omega)
              obtain ⟨qx, qc, rx, rc, rfl, _⟩ := rep_out hrep
              obtain ⟨mx, hmx⟩ : ∃ z, z = max (max kid.1.w kid.1.h) kid.1.d := ⟨_, rfl⟩
              have fM := fun (w : World) (ts : Array TypeId) (t : TypeId) => hmx ▸ run_max3 (P := Try.prog) kid.1.w kid.1.h kid.1.d w ts t
              have f2 : decide ((1048576 : Int) < mx) = false := decide_eq_false (by omega)
              obtain ⟨mn, hmn⟩ : ∃ z, z = min (min kid.1.w kid.1.h) kid.1.d := ⟨_, rfl⟩
              have fm := fun (w : World) (ts : Array TypeId) (t : TypeId) => hmn ▸ run_min3 (P := Try.prog) kid.1.w kid.1.h kid.1.d w ts t
              have f3 : decide (mn < (-1048576 : Int)) = true := decide_eq_true (by omega)
              clear hrep hcc hkid k0 k1 k2 hmx k3 hmn
              go_wp2_with (first | (refine own_unguard (by rfl) ?_) | (refine w_al rfl rfl hS ?_; clear hS; (try clear ww); intro bb ww hS) | (refine own_store rfl _ _ _ rfl rfl rfl hS at0 rt_box (by rfl) (by assumption) ?_; clear hS; (try clear ww); intro ww hS; (try simp only [List.set_cons_zero] at hS)) | (go_at_call 33; refine own_calls hS (HVb.out _ hS.below) ?_; clear hS; (try clear ww); intro ww hS) | (go_at_call 37; refine own_calls hS (HNb.out _ hS.below) ?_; clear hS; (try clear ww); intro ww hS) | (refine w_ld rfl _ rfl (by rfl) (by first | exact rd_1 (by repeat constructor) (by first | rfl | assumption) | exact rd_w (by repeat constructor) (by rfl) | exact rd_o (by assumption) (by rfl) (by first | exact nmn | assumption | simp) | exact rd_h (by assumption) (by rfl) (by first | exact nmn | assumption | simp) | exact rd_1o (by assumption) (by first | exact nmn | assumption | simp) | exact rd_1h (by assumption) (by first | rfl | assumption) (by first | exact nmn | assumption | simp)) hS ?_) | (refine own_box rfl _ _ rfl (by rfl) hS ?_; clear hS; (try clear ww); intro bb ww hS) | (refine w_al rfl rfl hS ?_; clear hS; (try clear ww); intro bb ww hS) | (refine w_st rfl _ _ rfl (by rfl) (by rfl) (by repeat constructor) (by rfl) (by rfl) (by first | rfl | assumption) hS ?_; clear hS; (try clear ww); intro ww hS) | (refine w_s1 rfl _ _ rfl (by rfl) (by repeat constructor) (by first | exact .c | exact .t rfl) (by rfl) (by repeat constructor) hS ?_; clear hS; (try clear ww); intro ww hS))
              go_ret
              exact ⟨rfl, bthen HB0.out hS.below⟩
          · obtain rfl : v = false := by cases hvv : v; rfl; exact absurd ((HVV.out.1 hvv) kid (List.mem_of_getElem? hkid)) (fun h => k2 h.2.2.1)
            have HVb := Lib.hid (fun w' (h : Below w0.heap.size w0 w') => ref28_Valid_calls (n + 1) kid _ w' (hrep.step h) hrep.wide hcc _ (iff_t k0))
            have HNb := Lib.hid (fun w' (h : Below w0.heap.size w0 w') => ref28_Nested_calls (n + 1) kid _ w' (hrep.step h) hcc)
            have f1 : decide ((90 : Int) < (bNested (n + 1) kid : Int)) = false := decide_eq_false (by omega)
            obtain ⟨qx, qc, rx, rc, rfl, _⟩ := rep_out hrep
            obtain ⟨mx, hmx⟩ : ∃ z, z = max (max kid.1.w kid.1.h) kid.1.d := ⟨_, rfl⟩
            have fM := fun (w : World) (ts : Array TypeId) (t : TypeId) => hmx ▸ run_max3 (P := Try.prog) kid.1.w kid.1.h kid.1.d w ts t
            have f2 : decide ((1048576 : Int) < mx) = true := decide_eq_true (by omega)
            clear hrep hcc hkid k0 k1 k2 hmx
            go_wp2_with (first | (refine own_unguard (by rfl) ?_) | (refine w_al rfl rfl hS ?_; clear hS; (try clear ww); intro bb ww hS) | (refine own_store rfl _ _ _ rfl rfl rfl hS at0 rt_box (by rfl) (by assumption) ?_; clear hS; (try clear ww); intro ww hS; (try simp only [List.set_cons_zero] at hS)) | (go_at_call 33; refine own_calls hS (HVb.out _ hS.below) ?_; clear hS; (try clear ww); intro ww hS) | (go_at_call 37; refine own_calls hS (HNb.out _ hS.below) ?_; clear hS; (try clear ww); intro ww hS) | (refine w_ld rfl _ rfl (by rfl) (by first | exact rd_1 (by repeat constructor) (by first | rfl | assumption) | exact rd_w (by repeat constructor) (by rfl) | exact rd_o (by assumption) (by rfl) (by first | exact nmn | assumption | simp) | exact rd_h (by assumption) (by rfl) (by first | exact nmn | assumption | simp) | exact rd_1o (by assumption) (by first | exact nmn | assumption | simp) | exact rd_1h (by assumption) (by first | rfl | assumption) (by first | exact nmn | assumption | simp)) hS ?_) | (refine own_box rfl _ _ rfl (by rfl) hS ?_; clear hS; (try clear ww); intro bb ww hS) | (refine w_al rfl rfl hS ?_; clear hS; (try clear ww); intro bb ww hS) | (refine w_st rfl _ _ rfl (by rfl) (by rfl) (by repeat constructor) (by rfl) (by rfl) (by first | rfl | assumption) hS ?_; clear hS; (try clear ww); intro ww hS) | (refine w_s1 rfl _ _ rfl (by rfl) (by repeat constructor) (by first | exact .c | exact .t rfl) (by rfl) (by repeat constructor) hS ?_; clear hS; (try clear ww); intro ww hS))
            go_ret
            exact ⟨rfl, bthen HB0.out hS.below⟩
        · obtain rfl : v = false := by cases hvv : v; rfl; exact absurd ((HVV.out.1 hvv) kid (List.mem_of_getElem? hkid)) (fun h => k1 h.2.1)
          have HVb := Lib.hid (fun w' (h : Below w0.heap.size w0 w') => ref28_Valid_calls (n + 1) kid _ w' (hrep.step h) hrep.wide hcc _ (iff_t k0))
          have HNb := Lib.hid (fun w' (h : Below w0.heap.size w0 w') => ref28_Nested_calls (n + 1) kid _ w' (hrep.step h) hcc)
          have f1 : decide ((90 : Int) < (bNested (n + 1) kid : Int)) = true := decide_eq_true (by omega)
          obtain ⟨qx, qc, rx, rc, rfl, _⟩ := rep_out hrep
          clear hrep hcc hkid k0 k1
          go_wp2_with (first | (refine own_unguard (by rfl) ?_) | (refine w_al rfl rfl hS ?_; clear hS; (try clear ww); intro bb ww hS) | (refine own_store rfl _ _ _ rfl rfl rfl hS at0 rt_box (by rfl) (by assumption) ?_; clear hS; (try clear ww); intro ww hS; (try simp only [List.set_cons_zero] at hS)) | (go_at_call 33; refine own_calls hS (HVb.out _ hS.below) ?_; clear hS; (try clear ww); intro ww hS) | (go_at_call 37; refine own_calls hS (HNb.out _ hS.below) ?_; clear hS; (try clear ww); intro ww hS) | (refine w_ld rfl _ rfl (by rfl) (by first | exact rd_1 (by repeat constructor) (by first | rfl | assumption) | exact rd_w (by repeat constructor) (by rfl) | exact rd_o (by assumption) (by rfl) (by first | exact nmn | assumption | simp) | exact rd_h (by assumption) (by rfl) (by first | exact nmn | assumption | simp) | exact rd_1o (by assumption) (by first | exact nmn | assumption | simp) | exact rd_1h (by assumption) (by first | rfl | assumption) (by first | exact nmn | assumption | simp)) hS ?_) | (refine own_box rfl _ _ rfl (by rfl) hS ?_; clear hS; (try clear ww); intro bb ww hS) | (refine w_al rfl rfl hS ?_; clear hS; (try clear ww); intro bb ww hS) | (refine w_st rfl _ _ rfl (by rfl) (by rfl) (by repeat constructor) (by rfl) (by rfl) (by first | rfl | assumption) hS ?_; clear hS; (try clear ww); intro ww hS) | (refine w_s1 rfl _ _ rfl (by rfl) (by repeat constructor) (by first | exact .c | exact .t rfl) (by rfl) (by repeat constructor) hS ?_; clear hS; (try clear ww); intro ww hS))
          go_ret
          exact ⟨rfl, bthen HB0.out hS.below⟩
      · obtain rfl : v = false := by cases hvv : v; rfl; exact absurd ((HVV.out.1 hvv) kid (List.mem_of_getElem? hkid)) (fun h => k0 h.1)
        have HVb := Lib.hid (fun w' (h : Below w0.heap.size w0 w') => ref28_Valid_calls (n + 1) kid _ w' (hrep.step h) hrep.wide hcc _ (iff_f k0))
        obtain ⟨qx, qc, rx, rc, rfl, _⟩ := rep_out hrep
        clear hrep hcc hkid k0
        go_wp2_with (first | (refine own_unguard (by rfl) ?_) | (refine w_al rfl rfl hS ?_; clear hS; (try clear ww); intro bb ww hS) | (refine own_store rfl _ _ _ rfl rfl rfl hS at0 rt_box (by rfl) (by assumption) ?_; clear hS; (try clear ww); intro ww hS; (try simp only [List.set_cons_zero] at hS)) | (go_at_call 33; refine own_calls hS (HVb.out _ hS.below) ?_; clear hS; (try clear ww); intro ww hS) | (refine w_ld rfl _ rfl (by rfl) (by first | exact rd_1 (by repeat constructor) (by first | rfl | assumption) | exact rd_w (by repeat constructor) (by rfl) | exact rd_o (by assumption) (by rfl) (by first | exact nmn | assumption | simp) | exact rd_h (by assumption) (by rfl) (by first | exact nmn | assumption | simp) | exact rd_1o (by assumption) (by first | exact nmn | assumption | simp) | exact rd_1h (by assumption) (by first | rfl | assumption) (by first | exact nmn | assumption | simp)) hS ?_) | (refine own_box rfl _ _ rfl (by rfl) hS ?_; clear hS; (try clear ww); intro bb ww hS) | (refine w_al rfl rfl hS ?_; clear hS; (try clear ww); intro bb ww hS) | (refine w_st rfl _ _ rfl (by rfl) (by rfl) (by repeat constructor) (by rfl) (by rfl) (by first | rfl | assumption) hS ?_; clear hS; (try clear ww); intro ww hS) | (refine w_s1 rfl _ _ rfl (by rfl) (by repeat constructor) (by first | exact .c | exact .t rfl) (by rfl) (by repeat constructor) hS ?_; clear hS; (try clear ww); intro ww hS))
        go_ret
        exact ⟨rfl, bthen HB0.out hS.below⟩

    · have hfin : ∀ k ∈ kids, CellOk n k := fun k hk => HFo.out k (by rw [List.take_of_length_le (by omega)]; exact hk)
      obtain rfl := HVV.out.2 hfin
      clear hfin
      go_wp2_with (first | (refine own_unguard (by rfl) ?_) | (refine w_ld rfl _ rfl (by rfl) (by first | exact rd_1 (by repeat constructor) (by first | rfl | assumption) | exact rd_w (by repeat constructor) (by rfl) | exact rd_o (by assumption) (by rfl) (by first | exact nmn | assumption | simp) | exact rd_h (by assumption) (by rfl) (by first | exact nmn | assumption | simp) | exact rd_1o (by assumption) (by first | exact nmn | assumption | simp) | exact rd_1h (by assumption) (by first | rfl | assumption) (by first | exact nmn | assumption | simp)) hS ?_) | (refine own_box rfl _ _ rfl (by rfl) hS ?_; clear hS; (try clear ww); intro bb ww hS) | (refine w_al rfl rfl hS ?_; clear hS; (try clear ww); intro bb ww hS) | (refine w_st rfl _ _ rfl (by rfl) (by rfl) (by repeat constructor) (by rfl) (by rfl) (by first | rfl | assumption) hS ?_; clear hS; (try clear ww); intro ww hS) | (refine w_s1 rfl _ _ rfl (by rfl) (by repeat constructor) (by first | exact .c | exact .t rfl) (by rfl) (by repeat constructor) hS ?_; clear hS; (try clear ww); intro ww hS))
      go_ret
      exact ⟨rfl, bthen HB0.out hS.below⟩

theorem right37_calls (F : Fnt) (l : Int) (c : Bool) (n : Nat) (C : Int) (kids : List (Bx (n + 1))) (kx : Option Addr) (kc : Nat) (w : World) (hF : FntOk w F) (hk : RepL w (n + 1) kx kids) (hm : kids.length ≤ maxLen) (v : Bool) (hv : v = true ↔ RightOk F l n C kids) : Calls Try.prog 13 #[.agg (caseX F l c).toArray, .int .i64 C, .slice kx kids.length kc] w (Gives (.bool v) w) := by
  have hno : ¬ RightOk F l n C kids → v = false := fun h => by cases hvv : v; rfl; exact absurd (hv.1 hvv) h
  by_cases h0 : fewX F n kids = true
  · by_cases h1 : ValidF F
    · by_cases h2 : lvlOk l = true
      · by_cases h3 : 1 ≤ C
        · by_cases h4 : C ≤ 16
          · by_cases h5 : 1 ≤ kids.length
            · by_cases h6 : kids.length ≤ 256
              · by_cases h7 : (kids.length : Int) % C = 0
                · exact right_cells F l c n C kids kx kc w hF hk hm h0 h1 h2 h3 h4 h5 h6 h7 v ⟨fun h => (hv.1 h).2.2.2.2.2.2.2.2, fun h => hv.2 ⟨h0, h1, h2, h3, h4, h5, h6, h7, h⟩⟩
                · rw [hno fun h => h7 h.2.2.2.2.2.2.2.1]; exact right_rem F l c n C kids kx kc w hF hk hm h0 h1 h2 h3 h4 h5 h6 h7
              · rw [hno fun h => h6 h.2.2.2.2.2.2.1]; exact right_n256 F l c n C kids kx kc w hF hk hm h0 h1 h2 h3 h4 h5 (by omega)
            · rw [hno fun h => h5 h.2.2.2.2.2.1]; exact right_n1 F l c n C kids kx kc w hF hk hm h0 h1 h2 h3 h4 (by omega)
          · rw [hno fun h => h4 h.2.2.2.2.1]; exact right_c16 F l c n C kids kx kc w hF hk hm h0 h1 h2 h3 (by omega)
        · rw [hno fun h => h3 h.2.2.2.1]; exact right_c1 F l c n C kids kx kc w hF hk hm h0 h1 h2 (by omega)
      · rw [hno fun h => h2 h.2.2.1]; exact right_style F l c n C kids kx kc w hF hk hm h0 h1 (by simpa using h2)
    · rw [hno fun h => h1 h.2.1]; exact right_font F l c n C kids kx kc w hF hk hm h0 h1
  · rw [hno fun h => h0 h.1]; exact right_few F l c n C kids kx kc w hF hk hm (by simpa using h0)
end Go.Proofs.Ytgnkngkogamjaaa
namespace Go.Proofs.Ytgnkngkogamjaaa
open Go.RowKit
attribute [local irreducible] wpQuiet wpG wpP wpK wpList Code.wp Calls

end Go.Proofs.Ytgnkngkogamjaaa
namespace Go.Proofs.Ytgnkngkogamjaaa
open Go.RowKit
attribute [local irreducible] wpQuiet wpG wpP wpK wpList Code.wp Calls

end Go.Proofs.Ytgnkngkogamjaaa
