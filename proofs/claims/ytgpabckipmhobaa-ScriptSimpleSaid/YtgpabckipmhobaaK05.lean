/- Boxes: what is required of the fields. -/
import Derived.Test.YtgpabckipmhobaaK04
namespace Go.Proofs.Ytgpabckipmhobaa
open Go.RowKit

attribute [local irreducible] wpQuiet wpG wpP wpK wpList Code.wp

set_option maxHeartbeats 1000000 in
theorem box_named_calls (s : ByteArray) (w : World) (hs : s.size ≤ 9223372036854775807) :
    Calls Try.prog 78 #[.string s] w fun e w' => e = .returned (.bool (nameOk s)) ∧ w = w' := by
  go_enter Try.func78, Try.ntmps78
  go_wp2
  go_loop [3] (fun i => ∃ k : Nat, k ≤ s.size ∧ i = .int .i64 k ∧ bytesOk s.data.toList = bytesOk (s.data.toList.drop k)) (fun i => s.size - (intOf i).toNat)
  case atStart => exact ⟨0, Nat.zero_le _, rfl, rfl⟩
  case round =>
    obtain ⟨k, hk, rfl, hf⟩ := hrel
    by_cases hlt : k < s.size
    · rw [bytesOk_drop s k hlt] at hf
      have HF := Lib.hid hf
      clear hf
      by_cases h1 : (s[k].toNat : Int) < 32
      · have e1 : bytesOk s.data.toList = false := by rw [HF.out]; simp; omega
        have E1 := Lib.hid e1
        clear e1
        go_wp2
        go_ret
        refine ⟨ret_bool ?_, rfl⟩
        unfold nameOk
        rw [E1.out]; rfl
      · by_cases h2 : 126 < (s[k].toNat : Int)
        · have e1 : bytesOk s.data.toList = false := by rw [HF.out]; simp; omega
          have E1 := Lib.hid e1
          clear e1
          go_wp2
          go_ret
          refine ⟨ret_bool ?_, rfl⟩
          unfold nameOk
          rw [E1.out]; rfl
        · have e1 : bytesOk s.data.toList = bytesOk (s.data.toList.drop (k + 1)) := by rw [HF.out]; simp; omega
          have E1 := Lib.hid e1
          clear e1
          go_wp2
          go_round
          case rel => exact ⟨k + 1, by omega, by go_num, E1.out⟩
          case measure => simp [intOf]; omega
    · have e1 : bytesOk s.data.toList = true := by rw [hf, List.drop_of_length_le (by simp; omega)]; rfl
      have E1 := Lib.hid e1
      clear e1 hf
      go_wp2
      all_goals
        go_ret
        refine ⟨ret_bool ?_, rfl⟩
        unfold nameOk
        rw [E1.out]
        simp
        try omega

/-- Its lists are no longer than a machine can tell. -/
def Wide : (n : Nat) → Bx n → Prop
  | 0, _ => True
  | n + 1, b => b.1.src.length ≤ 9223372036854775807 ∧ b.2.length ≤ 9223372036854775807 ∧ ∀ k ∈ b.2, Wide n k
theorem RepG.wide {ko : Nat → Nat → Prop} {so : Nat → Prop} {w : World} : ∀ (n : Nat) (b : Bx n) (cs : List Value), RepG ko so w n b cs → Wide n b := by
  intro n
  induction n with
  | zero => intro b cs h; trivial
  | succ n ih =>
    rintro b cs ⟨kx, kc, sx, sc, h1, h2, h3, h4, h5, h6⟩
    have e1 := h2.srcLen
    unfold maxLen at e1 h3
    refine ⟨by omega, by omega, fun k hk => ?_⟩
    obtain ⟨i, hi⟩ := List.mem_iff_getElem?.1 hk
    obtain ⟨_, _, css, _, _, _, hr⟩ := h6 i k hi
    exact ih k css hr
theorem Rep.wide {w : World} {n : Nat} {b : Bx n} {cs : List Value} (h : Rep w n b cs) : Wide n b := RepG.wide n b cs h

/-- Of and Src go together. -/
def srcEnd (a : Hd) : Bool := if a.of = 0 then decide (a.src.length = 0) else if a.of = 1 then decide (a.src.length % 2 = 0) && decide (a.src.length ≤ 48) else if a.of = 2 then decide (a.src.length % 2 = 1) && decide (a.src.length ≤ 49) else false
def srcOk (a : Hd) : Bool := a.src.all (fun n => decide (0 ≤ n)) && srcEnd a
theorem srcs_drop {l : List Int} {k : Nat} {n : Int} (h : l[k]? = some n) : (l.drop k).all (fun n => decide (0 ≤ n)) = (decide (0 ≤ n) && (l.drop (k + 1)).all (fun n => decide (0 ≤ n))) := by
  obtain ⟨hlt, rfl⟩ := List.getElem?_eq_some_iff.1 h
  rw [List.drop_eq_getElem_cons hlt, List.all_cons]
theorem srcEnd_0 {a : Hd} (h : a.of = 0) : srcEnd a = decide (a.src.length = 0) := by unfold srcEnd; rw [if_pos h]
theorem srcEnd_1 {a : Hd} (h : a.of = 1) : srcEnd a = (decide (a.src.length % 2 = 0) && decide (a.src.length ≤ 48)) := by unfold srcEnd; rw [if_neg (by omega), if_pos h]
theorem srcEnd_2 {a : Hd} (h : a.of = 2) : srcEnd a = (decide (a.src.length % 2 = 1) && decide (a.src.length ≤ 49)) := by unfold srcEnd; rw [if_neg (by omega), if_neg (by omega), if_pos h]
theorem srcEnd_3 {a : Hd} (h0 : a.of ≠ 0) (h1 : a.of ≠ 1) (h2 : a.of ≠ 2) : srcEnd a = false := by unfold srcEnd; rw [if_neg h0, if_neg h1, if_neg h2]

set_option maxHeartbeats 8000000 in
set_option maxRecDepth 100000 in
theorem box_source_calls (a : Hd) (k o : Nat) (kv : Value) (sx : Option Addr) (sc : Nat) (w : World) (hr : w.rangeAt k o (a.cells kv (.slice sx a.src.length sc))) (hs : RowAt w sx 1 intCells a.src) (hl : a.src.length ≤ 9223372036854775807) :
    Calls Try.prog 79 #[.pointer (some ⟨k, o, none⟩)] w (Gives (.bool (srcOk a)) w) := by
  have c10 : w.cell? ⟨k, o + 10, none⟩ = some (.slice sx a.src.length sc) := hr 10 _ rfl
  have c9 : w.cell? ⟨k, o + 9, none⟩ = some (.int .i64 a.of) := hr 9 _ rfl
  have HS := Lib.hid hs
  clear hr hs
  go_enter Try.func79, Try.ntmps79
  have hS := own_start w
  go_wp2_with (first | (refine own_unguard (by rfl) ?_) | (refine w_ld rfl _ rfl (by rfl) (by first | exact rd_1 (by repeat constructor) (by first | rfl | assumption) | exact rd_w (by repeat constructor) (by rfl) | exact rd_o (by assumption) (by rfl) (by first | exact nmn | assumption | simp) | exact rd_h (by assumption) (by rfl) (by first | exact nmn | assumption | simp) | exact rd_1o (by assumption) (by first | exact nmn | assumption | simp) | exact rd_1h (by assumption) (by first | rfl | assumption) (by first | exact nmn | assumption | simp)) hS ?_) | (refine own_box rfl _ _ rfl (by rfl) hS ?_; clear hS; (try clear ww); intro bb ww hS) | (refine w_st rfl _ _ rfl (by rfl) (by rfl) (by repeat constructor) (by rfl) (by rfl) (by first | rfl | assumption) hS ?_; clear hS; (try clear ww); intro ww hS) | (refine w_s1 rfl _ _ rfl (by rfl) (by repeat constructor) (by first | exact .c | exact .t rfl) (by rfl) (by repeat constructor) hS ?_; clear hS; (try clear ww); intro ww hS))
  go_loopw [11] (fun i wr => ∃ j : Nat, j ≤ a.src.length ∧ i = .int .i64 j ∧ a.src.all (fun n => decide (0 ≤ n)) = (a.src.drop j).all (fun n => decide (0 ≤ n)) ∧ Own [] w [] wr) (fun i _ => a.src.length - (intOf i).toNat)
  case atStart => exact ⟨0, Nat.zero_le _, rfl, rfl, hS⟩
  case round =>
    clear hS
    obtain ⟨j, hj, rfl, hf, hS⟩ := hrel
    by_cases hlt : j < a.src.length
    · obtain ⟨n, hn⟩ : ∃ n, a.src[j]? = some n := ⟨a.src[j], by simp [hlt]⟩
      obtain ⟨b, f, hx, hr0⟩ := HS.out.get hn
      obtain rfl : sx = some ⟨b, f, none⟩ := hx
      have hc : w.cell? ⟨b, f + j * 1, none⟩ = some (.int .i64 n) := hr0 0 _ rfl
      rw [Nat.mul_one] at hc
      rw [srcs_drop hn] at hf
      have HF := Lib.hid hf
      clear hf hr0 hn
      by_cases h0 : 0 ≤ n
      · have E1 := Lib.hid (show a.src.all (fun n => decide (0 ≤ n)) = (a.src.drop (j + 1)).all (fun n => decide (0 ≤ n)) by rw [HF.out]; simp [h0])
        clear HF
        go_wp2_with (first | (refine own_unguard (by rfl) ?_) | (refine w_ld rfl _ rfl (by rfl) (by first | exact rd_1 (by repeat constructor) (by first | rfl | assumption) | exact rd_w (by repeat constructor) (by rfl) | exact rd_o (by assumption) (by rfl) (by first | exact nmn | assumption | simp) | exact rd_h (by assumption) (by rfl) (by first | exact nmn | assumption | simp) | exact rd_1o (by assumption) (by first | exact nmn | assumption | simp) | exact rd_1h (by assumption) (by first | rfl | assumption) (by first | exact nmn | assumption | simp)) hS ?_) | (refine own_box rfl _ _ rfl (by rfl) hS ?_; clear hS; (try clear ww); intro bb ww hS) | (refine w_st rfl _ _ rfl (by rfl) (by rfl) (by repeat constructor) (by rfl) (by rfl) (by first | rfl | assumption) hS ?_; clear hS; (try clear ww); intro ww hS) | (refine w_s1 rfl _ _ rfl (by rfl) (by repeat constructor) (by first | exact .c | exact .t rfl) (by rfl) (by repeat constructor) hS ?_; clear hS; (try clear ww); intro ww hS))
        go_roundw
        case rel => exact ⟨j + 1, hlt, by go_num, E1.out, hS⟩
        case measure => exact loop_meas hlt
      · have E1 := Lib.hid (show srcOk a = false by unfold srcOk; rw [HF.out]; simp [h0])
        clear HF
        go_wp2_with (first | (refine own_unguard (by rfl) ?_) | (refine w_ld rfl _ rfl (by rfl) (by first | exact rd_1 (by repeat constructor) (by first | rfl | assumption) | exact rd_w (by repeat constructor) (by rfl) | exact rd_o (by assumption) (by rfl) (by first | exact nmn | assumption | simp) | exact rd_h (by assumption) (by rfl) (by first | exact nmn | assumption | simp) | exact rd_1o (by assumption) (by first | exact nmn | assumption | simp) | exact rd_1h (by assumption) (by first | rfl | assumption) (by first | exact nmn | assumption | simp)) hS ?_) | (refine own_box rfl _ _ rfl (by rfl) hS ?_; clear hS; (try clear ww); intro bb ww hS) | (refine w_st rfl _ _ rfl (by rfl) (by rfl) (by repeat constructor) (by rfl) (by rfl) (by first | rfl | assumption) hS ?_; clear hS; (try clear ww); intro ww hS) | (refine w_s1 rfl _ _ rfl (by rfl) (by repeat constructor) (by first | exact .c | exact .t rfl) (by rfl) (by repeat constructor) hS ?_; clear hS; (try clear ww); intro ww hS))
        go_ret
        exact ⟨ret_bool E1.out.symm, hS.below⟩
    · have E0 := Lib.hid (show srcOk a = srcEnd a by unfold srcOk; rw [hf, List.drop_of_length_le (by omega)]; rfl)
      clear hf
      by_cases q0 : a.of = 0
      · have E1 := Lib.hid (E0.out.trans (srcEnd_0 q0))
        clear E0
        go_wp2_with (first | (refine own_unguard (by rfl) ?_) | (refine w_ld rfl _ rfl (by rfl) (by first | exact rd_1 (by repeat constructor) (by first | rfl | assumption) | exact rd_w (by repeat constructor) (by rfl) | exact rd_o (by assumption) (by rfl) (by first | exact nmn | assumption | simp) | exact rd_h (by assumption) (by rfl) (by first | exact nmn | assumption | simp) | exact rd_1o (by assumption) (by first | exact nmn | assumption | simp) | exact rd_1h (by assumption) (by first | rfl | assumption) (by first | exact nmn | assumption | simp)) hS ?_) | (refine own_box rfl _ _ rfl (by rfl) hS ?_; clear hS; (try clear ww); intro bb ww hS) | (refine w_st rfl _ _ rfl (by rfl) (by rfl) (by repeat constructor) (by rfl) (by rfl) (by first | rfl | assumption) hS ?_; clear hS; (try clear ww); intro ww hS) | (refine w_s1 rfl _ _ rfl (by rfl) (by repeat constructor) (by first | exact .c | exact .t rfl) (by rfl) (by repeat constructor) hS ?_; clear hS; (try clear ww); intro ww hS))
        all_goals (go_ret; exact ⟨ret_bool (by rw [E1.out, Bool.eq_iff_iff]; simp only [beq_iff_eq, decide_eq_true_eq]; omega), hS.below⟩)
      · by_cases q1 : a.of = 1
        · have E1 := Lib.hid (E0.out.trans (srcEnd_1 q1))
          clear E0
          go_wp2_with (first | (refine own_unguard (by rfl) ?_) | (refine w_ld rfl _ rfl (by rfl) (by first | exact rd_1 (by repeat constructor) (by first | rfl | assumption) | exact rd_w (by repeat constructor) (by rfl) | exact rd_o (by assumption) (by rfl) (by first | exact nmn | assumption | simp) | exact rd_h (by assumption) (by rfl) (by first | exact nmn | assumption | simp) | exact rd_1o (by assumption) (by first | exact nmn | assumption | simp) | exact rd_1h (by assumption) (by first | rfl | assumption) (by first | exact nmn | assumption | simp)) hS ?_) | (refine own_box rfl _ _ rfl (by rfl) hS ?_; clear hS; (try clear ww); intro bb ww hS) | (refine w_st rfl _ _ rfl (by rfl) (by rfl) (by repeat constructor) (by rfl) (by rfl) (by first | rfl | assumption) hS ?_; clear hS; (try clear ww); intro ww hS) | (refine w_s1 rfl _ _ rfl (by rfl) (by repeat constructor) (by first | exact .c | exact .t rfl) (by rfl) (by repeat constructor) hS ?_; clear hS; (try clear ww); intro ww hS))
          all_goals (go_ret; exact ⟨ret_bool (by rw [E1.out, Bool.eq_iff_iff]; simp only [Bool.and_eq_true, decide_eq_true_eq, Bool.false_eq_true]; first | omega | (simp only [false_iff]; omega)), hS.below⟩)
        · by_cases q2 : a.of = 2
          · have E1 := Lib.hid (E0.out.trans (srcEnd_2 q2))
            clear E0
            go_wp2_with (first | (refine own_unguard (by rfl) ?_) | (refine w_ld rfl _ rfl (by rfl) (by first | exact rd_1 (by repeat constructor) (by first | rfl | assumption) | exact rd_w (by repeat constructor) (by rfl) | exact rd_o (by assumption) (by rfl) (by first | exact nmn | assumption | simp) | exact rd_h (by assumption) (by rfl) (by first | exact nmn | assumption | simp) | exact rd_1o (by assumption) (by first | exact nmn | assumption | simp) | exact rd_1h (by assumption) (by first | rfl | assumption) (by first | exact nmn | assumption | simp)) hS ?_) | (refine own_box rfl _ _ rfl (by rfl) hS ?_; clear hS; (try clear ww); intro bb ww hS) | (refine w_st rfl _ _ rfl (by rfl) (by rfl) (by repeat constructor) (by rfl) (by rfl) (by first | rfl | assumption) hS ?_; clear hS; (try clear ww); intro ww hS) | (refine w_s1 rfl _ _ rfl (by rfl) (by repeat constructor) (by first | exact .c | exact .t rfl) (by rfl) (by repeat constructor) hS ?_; clear hS; (try clear ww); intro ww hS))
            all_goals (go_ret; exact ⟨ret_bool (by rw [E1.out, Bool.eq_iff_iff]; simp only [Bool.and_eq_true, decide_eq_true_eq, Bool.false_eq_true]; first | omega | (simp only [false_iff]; omega)), hS.below⟩)
          · have E1 := Lib.hid (E0.out.trans (srcEnd_3 q0 q1 q2))
            clear E0
            go_wp2_with (first | (refine own_unguard (by rfl) ?_) | (refine w_ld rfl _ rfl (by rfl) (by first | exact rd_1 (by repeat constructor) (by first | rfl | assumption) | exact rd_w (by repeat constructor) (by rfl) | exact rd_o (by assumption) (by rfl) (by first | exact nmn | assumption | simp) | exact rd_h (by assumption) (by rfl) (by first | exact nmn | assumption | simp) | exact rd_1o (by assumption) (by first | exact nmn | assumption | simp) | exact rd_1h (by assumption) (by first | rfl | assumption) (by first | exact nmn | assumption | simp)) hS ?_) | (refine own_box rfl _ _ rfl (by rfl) hS ?_; clear hS; (try clear ww); intro bb ww hS) | (refine w_st rfl _ _ rfl (by rfl) (by rfl) (by repeat constructor) (by rfl) (by rfl) (by first | rfl | assumption) hS ?_; clear hS; (try clear ww); intro ww hS) | (refine w_s1 rfl _ _ rfl (by rfl) (by repeat constructor) (by first | exact .c | exact .t rfl) (by rfl) (by repeat constructor) hS ?_; clear hS; (try clear ww); intro ww hS))
            all_goals (go_ret; exact ⟨ret_bool E1.out.symm, hS.below⟩)

theorem box_source_v {a : Hd} {k o : Nat} {kv : Value} {sx : Option Addr} {sc : Nat} {w : World} {v : Bool} (hr : w.rangeAt k o (a.cells kv (.slice sx a.src.length sc))) (hs : RowAt w sx 1 intCells a.src) (hl : a.src.length ≤ 9223372036854775807) (hv : Hid (srcOk a = v)) :
    Calls Try.prog 79 #[.pointer (some ⟨k, o, none⟩)] w (Gives (.bool v) w) := by
  have := box_source_calls a k o kv sx sc w hr hs hl
  rwa [hv.out] at this
theorem box_named_v {s : ByteArray} {w : World} {v : Bool} (hs : s.size ≤ maxLen) (hv : Hid (nameOk s = v)) : Calls Try.prog 78 #[.string s] w fun e w' => e = .returned (.bool v) ∧ w = w' := by
  have := box_named_calls s w hs
  rwa [hv.out] at this
def lensOk (l : List Int) : Bool := l.all fun n => decide (-1073741824 ≤ n) && decide (n ≤ 1073741824)
@[reducible] def Hd.lens (a : Hd) : List Int := [a.w, a.h, a.d, a.x, a.y]
/-- The fields that depend on the kind; nk: the number of kids. -/
def kindOk (a : Hd) (nk : Nat) : Bool :=
  if a.kind = 1 then nameOk a.name && (decide (1 ≤ a.size) && decide (a.size ≤ 1000)) && decide (nk = 0)
  else if a.kind = 2 then (a.name.toList == []) && decide (a.size = 0) && decide (nk = 0)
  else if a.kind = 3 then (a.name.toList == []) && decide (a.size = 0) else false
theorem kind_1 {a : Hd} {nk : Nat} (h : a.kind = 1) : kindOk a nk = (nameOk a.name && (decide (1 ≤ a.size) && decide (a.size ≤ 1000)) && decide (nk = 0)) := by unfold kindOk; rw [if_pos h]
theorem kind_2 {a : Hd} {nk : Nat} (h : a.kind = 2) : kindOk a nk = ((a.name.toList == []) && decide (a.size = 0) && decide (nk = 0)) := by unfold kindOk; rw [if_neg (by omega), if_pos h]
theorem kind_3 {a : Hd} {nk : Nat} (h : a.kind = 3) : kindOk a nk = ((a.name.toList == []) && decide (a.size = 0)) := by unfold kindOk; rw [if_neg (by omega), if_neg (by omega), if_pos h]
theorem kind_4 {a : Hd} {nk : Nat} (h1 : a.kind ≠ 1) (h2 : a.kind ≠ 2) (h3 : a.kind ≠ 3) : kindOk a nk = false := by unfold kindOk; rw [if_neg h1, if_neg h2, if_neg h3]
def ownOk (a : Hd) (nk : Nat) : Bool := lensOk a.lens && kindOk a nk && srcOk a
theorem ownOk_len {a : Hd} {nk : Nat} (h : lensOk a.lens = false) : ownOk a nk = false := by unfold ownOk; rw [h]; rfl
theorem ownOk_kind {a : Hd} {nk : Nat} (h : lensOk a.lens = true) : ownOk a nk = (kindOk a nk && srcOk a) := by unfold ownOk; rw [h]; rfl

theorem idx5_0 (a0 a1 a2 a3 a4 : Int) (w : World) : (Instr.index 114 (.agg #[.int .i64 a0, .int .i64 a1, .int .i64 a2, .int .i64 a3, .int .i64 a4]) (.int .i64 0)).run Try.prog w = .ok (.int .i64 a0) w := by
  simp [Instr.index, asIntOf, run_underlying Try.underlying114, go_sem]
theorem idx5_1 (a0 a1 a2 a3 a4 : Int) (w : World) : (Instr.index 114 (.agg #[.int .i64 a0, .int .i64 a1, .int .i64 a2, .int .i64 a3, .int .i64 a4]) (.int .i64 1)).run Try.prog w = .ok (.int .i64 a1) w := by
  simp [Instr.index, asIntOf, run_underlying Try.underlying114, go_sem]
theorem idx5_2 (a0 a1 a2 a3 a4 : Int) (w : World) : (Instr.index 114 (.agg #[.int .i64 a0, .int .i64 a1, .int .i64 a2, .int .i64 a3, .int .i64 a4]) (.int .i64 2)).run Try.prog w = .ok (.int .i64 a2) w := by
  simp [Instr.index, asIntOf, run_underlying Try.underlying114, go_sem]
theorem idx5_3 (a0 a1 a2 a3 a4 : Int) (w : World) : (Instr.index 114 (.agg #[.int .i64 a0, .int .i64 a1, .int .i64 a2, .int .i64 a3, .int .i64 a4]) (.int .i64 3)).run Try.prog w = .ok (.int .i64 a3) w := by
  simp [Instr.index, asIntOf, run_underlying Try.underlying114, go_sem]
theorem idx5_4 (a0 a1 a2 a3 a4 : Int) (w : World) : (Instr.index 114 (.agg #[.int .i64 a0, .int .i64 a1, .int .i64 a2, .int .i64 a3, .int .i64 a4]) (.int .i64 4)).run Try.prog w = .ok (.int .i64 a4) w := by
  simp [Instr.index, asIntOf, run_underlying Try.underlying114, go_sem]

set_option maxHeartbeats 16000000 in
set_option maxRecDepth 100000 in
theorem box_own_calls (a : Hd) (k o : Nat) (kx : Option Addr) (nk kc : Nat) (sx : Option Addr) (sc : Nat) (w : World) (hr : w.rangeAt k o (a.cells (.slice kx nk kc) (.slice sx a.src.length sc))) (hs : RowAt w sx 1 intCells a.src) (hl : a.src.length ≤ 9223372036854775807) (hnm : a.name.size ≤ maxLen) :
    Calls Try.prog 73 #[.pointer (some ⟨k, o, none⟩)] w (Gives (.bool (ownOk a nk)) w) := by
  have c0 : w.cell? ⟨k, o, none⟩ = some (.int .i64 a.kind) := hr 0 _ rfl
  have c1 : w.cell? ⟨k, o + 1, none⟩ = some (.string a.name) := hr 1 _ rfl
  have c2 : w.cell? ⟨k, o + 2, none⟩ = some (.int .i64 a.size) := hr 2 _ rfl
  have c3 : w.cell? ⟨k, o + 3, none⟩ = some (.int .i64 a.w) := hr 3 _ rfl
  have c4 : w.cell? ⟨k, o + 4, none⟩ = some (.int .i64 a.h) := hr 4 _ rfl
  have c5 : w.cell? ⟨k, o + 5, none⟩ = some (.int .i64 a.d) := hr 5 _ rfl
  have c6 : w.cell? ⟨k, o + 6, none⟩ = some (.int .i64 a.x) := hr 6 _ rfl
  have c7 : w.cell? ⟨k, o + 7, none⟩ = some (.int .i64 a.y) := hr 7 _ rfl
  have c8 : w.cell? ⟨k, o + 8, none⟩ = some (.slice kx nk kc) := hr 8 _ rfl
  have c9 : w.cell? ⟨k, o + 9, none⟩ = some (.int .i64 a.of) := hr 9 _ rfl
  have c10 : w.cell? ⟨k, o + 10, none⟩ = some (.slice sx a.src.length sc) := hr 10 _ rfl
  have HR := Lib.hid hr
  have HS := Lib.hid hs
  clear hr hs
  go_enter Try.func73, Try.ntmps73
  have hS := own_start w
  go_wp2_with (first | (refine own_unguard (by rfl) ?_) | (refine w_ld rfl _ rfl (by rfl) (by first | exact rd_1 (by repeat constructor) (by first | rfl | assumption) | exact rd_w (by repeat constructor) (by rfl) | exact rd_o (by assumption) (by rfl) (by first | exact nmn | assumption | simp) | exact rd_h (by assumption) (by rfl) (by first | exact nmn | assumption | simp) | exact rd_1o (by assumption) (by first | exact nmn | assumption | simp) | exact rd_1h (by assumption) (by first | rfl | assumption) (by first | exact nmn | assumption | simp)) hS ?_) | (refine own_box rfl _ _ rfl (by rfl) hS ?_; clear hS; (try clear ww); intro bb ww hS) | (refine w_st rfl _ _ rfl (by rfl) (by rfl) (by repeat constructor) (by rfl) (by rfl) (by first | rfl | assumption) hS ?_; clear hS; (try clear ww); intro ww hS) | (refine w_s1 rfl _ _ rfl (by rfl) (by repeat constructor) (by first | exact .c | exact .t rfl) (by rfl) (by repeat constructor) hS ?_; clear hS; (try clear ww); intro ww hS))
  refine own_region hS (by kernel_rfl) (by kernel_rfl) ?_
  (try simp only); (try simp only [List.drop_succ_cons]); (try simp only [List.drop_zero]); (try simp only [List.take_succ_cons]); (try simp only [List.take_zero])
  repeat (first
      | (first | (refine quiet_plain rfl ?_) | (refine quiet_yes rfl rfl rfl (by simp only [List.getElem?_toArray, List.getElem?_cons_succ, List.getElem?_cons_zero]; rfl) (by with_reducible constructor) ?_)
         apply Exists.intro; refine ⟨?_, ?_⟩
         focus (intro wq hq0; have hq : Own _ _ _ wq := hq0; first | (exact quietAt_rd rfl (by rfl) (by first | exact rd_1 (by repeat constructor) (by first | rfl | assumption) | exact rd_w (by repeat constructor) (by rfl) | exact rd_o (by assumption) (by rfl) (by first | exact nmn | assumption | simp) | exact rd_h (by assumption) (by rfl) (by first | exact nmn | assumption | simp) | exact rd_1o (by assumption) (by first | exact nmn | assumption | simp) | exact rd_1h (by assumption) (by first | rfl | assumption) (by first | exact nmn | assumption | simp)) hq) | (go_simp; first | (with_reducible rfl)))
         simp only [Act.put, List.setIfInBounds_toArray, List.set_cons_zero, List.set_cons_succ])
      | (refine quiet_no rfl rfl rfl (by simp only [List.getElem?_toArray, List.getElem?_cons_succ, List.getElem?_cons_zero]; rfl) (by with_reducible constructor) ?_; simp only [Act.put, List.setIfInBounds_toArray, List.set_cons_zero, List.set_cons_succ]))
  refine wpQuiet_nil ?_
  clear hS
  intro ww hS
  go_wp2_with (first | (refine own_unguard (by rfl) ?_) | (refine w_ld rfl _ rfl (by rfl) (by first | exact rd_1 (by repeat constructor) (by first | rfl | assumption) | exact rd_w (by repeat constructor) (by rfl) | exact rd_o (by assumption) (by rfl) (by first | exact nmn | assumption | simp) | exact rd_h (by assumption) (by rfl) (by first | exact nmn | assumption | simp) | exact rd_1o (by assumption) (by first | exact nmn | assumption | simp) | exact rd_1h (by assumption) (by first | rfl | assumption) (by first | exact nmn | assumption | simp)) hS ?_) | (refine own_box rfl _ _ rfl (by rfl) hS ?_; clear hS; (try clear ww); intro bb ww hS) | (refine w_st rfl _ _ rfl (by rfl) (by rfl) (by repeat constructor) (by rfl) (by rfl) (by first | rfl | assumption) hS ?_; clear hS; (try clear ww); intro ww hS) | (refine w_s1 rfl _ _ rfl (by rfl) (by repeat constructor) (by first | exact .c | exact .t rfl) (by rfl) (by repeat constructor) hS ?_; clear hS; (try clear ww); intro ww hS))
  go_loopw [26] (fun i wr => ∃ j : Nat, j ≤ 5 ∧ i = .int .i64 j ∧ lensOk a.lens = lensOk (a.lens.drop j) ∧ Own [] w [] wr) (fun i _ => 5 - (intOf i).toNat)
  case atStart => exact ⟨0, Nat.zero_le _, rfl, rfl, hS⟩
  case round =>
    clear hS
    obtain ⟨j, hj, rfl, hf, hS⟩ := hrel
    have hcase : j = 0 ∨ j = 1 ∨ j = 2 ∨ j = 3 ∨ j = 4 ∨ j = 5 := by omega
    rcases hcase with rfl | rfl | rfl | rfl | rfl | rfl
    · have ix := idx5_0 a.w a.h a.d a.x a.y
      by_cases h1 : a.w < -1073741824
      · have E1 := Lib.hid (ownOk_len (nk := nk) (show lensOk a.lens = false by rw [hf]; simp [lensOk]; omega))
        clear hf
        go_wp2_with (first | (refine own_unguard (by rfl) ?_) | (refine w_ld rfl _ rfl (by rfl) (by first | exact rd_1 (by repeat constructor) (by first | rfl | assumption) | exact rd_w (by repeat constructor) (by rfl) | exact rd_o (by assumption) (by rfl) (by first | exact nmn | assumption | simp) | exact rd_h (by assumption) (by rfl) (by first | exact nmn | assumption | simp) | exact rd_1o (by assumption) (by first | exact nmn | assumption | simp) | exact rd_1h (by assumption) (by first | rfl | assumption) (by first | exact nmn | assumption | simp)) hS ?_) | (refine own_box rfl _ _ rfl (by rfl) hS ?_; clear hS; (try clear ww); intro bb ww hS) | (refine w_st rfl _ _ rfl (by rfl) (by rfl) (by repeat constructor) (by rfl) (by rfl) (by first | rfl | assumption) hS ?_; clear hS; (try clear ww); intro ww hS) | (refine w_s1 rfl _ _ rfl (by rfl) (by repeat constructor) (by first | exact .c | exact .t rfl) (by rfl) (by repeat constructor) hS ?_; clear hS; (try clear ww); intro ww hS))
        go_ret
        exact ⟨ret_bool E1.out.symm, hS.below⟩
      · by_cases h2 : 1073741824 < a.w
        · have E1 := Lib.hid (ownOk_len (nk := nk) (show lensOk a.lens = false by rw [hf]; simp [lensOk]; omega))
          clear hf
          go_wp2_with (first | (refine own_unguard (by rfl) ?_) | (refine w_ld rfl _ rfl (by rfl) (by first | exact rd_1 (by repeat constructor) (by first | rfl | assumption) | exact rd_w (by repeat constructor) (by rfl) | exact rd_o (by assumption) (by rfl) (by first | exact nmn | assumption | simp) | exact rd_h (by assumption) (by rfl) (by first | exact nmn | assumption | simp) | exact rd_1o (by assumption) (by first | exact nmn | assumption | simp) | exact rd_1h (by assumption) (by first | rfl | assumption) (by first | exact nmn | assumption | simp)) hS ?_) | (refine own_box rfl _ _ rfl (by rfl) hS ?_; clear hS; (try clear ww); intro bb ww hS) | (refine w_st rfl _ _ rfl (by rfl) (by rfl) (by repeat constructor) (by rfl) (by rfl) (by first | rfl | assumption) hS ?_; clear hS; (try clear ww); intro ww hS) | (refine w_s1 rfl _ _ rfl (by rfl) (by repeat constructor) (by first | exact .c | exact .t rfl) (by rfl) (by repeat constructor) hS ?_; clear hS; (try clear ww); intro ww hS))
          go_ret
          exact ⟨ret_bool E1.out.symm, hS.below⟩
        · have E1 := Lib.hid (show lensOk a.lens = lensOk (a.lens.drop 1) by rw [hf]; simp [lensOk]; omega)
          clear hf
          go_wp2_with (first | (refine own_unguard (by rfl) ?_) | (refine w_ld rfl _ rfl (by rfl) (by first | exact rd_1 (by repeat constructor) (by first | rfl | assumption) | exact rd_w (by repeat constructor) (by rfl) | exact rd_o (by assumption) (by rfl) (by first | exact nmn | assumption | simp) | exact rd_h (by assumption) (by rfl) (by first | exact nmn | assumption | simp) | exact rd_1o (by assumption) (by first | exact nmn | assumption | simp) | exact rd_1h (by assumption) (by first | rfl | assumption) (by first | exact nmn | assumption | simp)) hS ?_) | (refine own_box rfl _ _ rfl (by rfl) hS ?_; clear hS; (try clear ww); intro bb ww hS) | (refine w_st rfl _ _ rfl (by rfl) (by rfl) (by repeat constructor) (by rfl) (by rfl) (by first | rfl | assumption) hS ?_; clear hS; (try clear ww); intro ww hS) | (refine w_s1 rfl _ _ rfl (by rfl) (by repeat constructor) (by first | exact .c | exact .t rfl) (by rfl) (by repeat constructor) hS ?_; clear hS; (try clear ww); intro ww hS))
          go_roundw
          case rel => exact ⟨1, by omega, rfl, E1.out, hS⟩
          case measure => decide
    · have ix := idx5_1 a.w a.h a.d a.x a.y
      by_cases h1 : a.h < -1073741824
      · have E1 := Lib.hid (ownOk_len (nk := nk) (show lensOk a.lens = false by rw [hf]; simp [lensOk]; omega))
        clear hf
        go_wp2_with (first | (refine own_unguard (by rfl) ?_) | (refine w_ld rfl _ rfl (by rfl) (by first | exact rd_1 (by repeat constructor) (by first | rfl | assumption) | exact rd_w (by repeat constructor) (by rfl) | exact rd_o (by assumption) (by rfl) (by first | exact nmn | assumption | simp) | exact rd_h (by assumption) (by rfl) (by first | exact nmn | assumption | simp) | exact rd_1o (by assumption) (by first | exact nmn | assumption | simp) | exact rd_1h (by assumption) (by first | rfl | assumption) (by first | exact nmn | assumption | simp)) hS ?_) | (refine own_box rfl _ _ rfl (by rfl) hS ?_; clear hS; (try clear ww); intro bb ww hS) | (refine w_st rfl _ _ rfl (by rfl) (by rfl) (by repeat constructor) (by rfl) (by rfl) (by first | rfl | assumption) hS ?_; clear hS; (try clear ww); intro ww hS) | (refine w_s1 rfl _ _ rfl (by rfl) (by repeat constructor) (by first | exact .c | exact .t rfl) (by rfl) (by repeat constructor) hS ?_; clear hS; (try clear ww); intro ww hS))
        go_ret
        exact ⟨ret_bool E1.out.symm, hS.below⟩
      · by_cases h2 : 1073741824 < a.h
        · have E1 := Lib.hid (ownOk_len (nk := nk) (show lensOk a.lens = false by rw [hf]; simp [lensOk]; omega))
          clear hf
          go_wp2_with (first | (refine own_unguard (by rfl) ?_) | (refine w_ld rfl _ rfl (by rfl) (by first | exact rd_1 (by repeat constructor) (by first | rfl | assumption) | exact rd_w (by repeat constructor) (by rfl) | exact rd_o (by assumption) (by rfl) (by first | exact nmn | assumption | simp) | exact rd_h (by assumption) (by rfl) (by first | exact nmn | assumption | simp) | exact rd_1o (by assumption) (by first | exact nmn | assumption | simp) | exact rd_1h (by assumption) (by first | rfl | assumption) (by first | exact nmn | assumption | simp)) hS ?_) | (refine own_box rfl _ _ rfl (by rfl) hS ?_; clear hS; (try clear ww); intro bb ww hS) | (refine w_st rfl _ _ rfl (by rfl) (by rfl) (by repeat constructor) (by rfl) (by rfl) (by first | rfl | assumption) hS ?_; clear hS; (try clear ww); intro ww hS) | (refine w_s1 rfl _ _ rfl (by rfl) (by repeat constructor) (by first | exact .c | exact .t rfl) (by rfl) (by repeat constructor) hS ?_; clear hS; (try clear ww); intro ww hS))
          go_ret
          exact ⟨ret_bool E1.out.symm, hS.below⟩
        · have E1 := Lib.hid (show lensOk a.lens = lensOk (a.lens.drop 2) by rw [hf]; simp [lensOk]; omega)
          clear hf
          go_wp2_with (first | (refine own_unguard (by rfl) ?_) | (refine w_ld rfl _ rfl (by rfl) (by first | exact rd_1 (by repeat constructor) (by first | rfl | assumption) | exact rd_w (by repeat constructor) (by rfl) | exact rd_o (by assumption) (by rfl) (by first | exact nmn | assumption | simp) | exact rd_h (by assumption) (by rfl) (by first | exact nmn | assumption | simp) | exact rd_1o (by assumption) (by first | exact nmn | assumption | simp) | exact rd_1h (by assumption) (by first | rfl | assumption) (by first | exact nmn | assumption | simp)) hS ?_) | (refine own_box rfl _ _ rfl (by rfl) hS ?_; clear hS; (try clear ww); intro bb ww hS) | (refine w_st rfl _ _ rfl (by rfl) (by rfl) (by repeat constructor) (by rfl) (by rfl) (by first | rfl | assumption) hS ?_; clear hS; (try clear ww); intro ww hS) | (refine w_s1 rfl _ _ rfl (by rfl) (by repeat constructor) (by first | exact .c | exact .t rfl) (by rfl) (by repeat constructor) hS ?_; clear hS; (try clear ww); intro ww hS))
          go_roundw
          case rel => exact ⟨2, by omega, rfl, E1.out, hS⟩
          case measure => decide
    · have ix := idx5_2 a.w a.h a.d a.x a.y
      by_cases h1 : a.d < -1073741824
      · have E1 := Lib.hid (ownOk_len (nk := nk) (show lensOk a.lens = false by rw [hf]; simp [lensOk]; omega))
        clear hf
        go_wp2_with (first | (refine own_unguard (by rfl) ?_) | (refine w_ld rfl _ rfl (by rfl) (by first | exact rd_1 (by repeat constructor) (by first | rfl | assumption) | exact rd_w (by repeat constructor) (by rfl) | exact rd_o (by assumption) (by rfl) (by first | exact nmn | assumption | simp) | exact rd_h (by assumption) (by rfl) (by first | exact nmn | assumption | simp) | exact rd_1o (by assumption) (by first | exact nmn | assumption | simp) | exact rd_1h (by assumption) (by first | rfl | assumption) (by first | exact nmn | assumption | simp)) hS ?_) | (refine own_box rfl _ _ rfl (by rfl) hS ?_; clear hS; (try clear ww); intro bb ww hS) | (refine w_st rfl _ _ rfl (by rfl) (by rfl) (by repeat constructor) (by rfl) (by rfl) (by first | rfl | assumption) hS ?_; clear hS; (try clear ww); intro ww hS) | (refine w_s1 rfl _ _ rfl (by rfl) (by repeat constructor) (by first | exact .c | exact .t rfl) (by rfl) (by repeat constructor) hS ?_; clear hS; (try clear ww); intro ww hS))
        go_ret
        exact ⟨ret_bool E1.out.symm, hS.below⟩
      · by_cases h2 : 1073741824 < a.d
        · have E1 := Lib.hid (ownOk_len (nk := nk) (show lensOk a.lens = false by rw [hf]; simp [lensOk]; omega))
          clear hf
          go_wp2_with (first | (refine own_unguard (by rfl) ?_) | (refine w_ld rfl _ rfl (by rfl) (by first | exact rd_1 (by repeat constructor) (by first | rfl | assumption) | exact rd_w (by repeat constructor) (by rfl) | exact rd_o (by assumption) (by rfl) (by first | exact nmn | assumption | simp) | exact rd_h (by assumption) (by rfl) (by first | exact nmn | assumption | simp) | exact rd_1o (by assumption) (by first | exact nmn | assumption | simp) | exact rd_1h (by assumption) (by first | rfl | assumption) (by first | exact nmn | assumption | simp)) hS ?_) | (refine own_box rfl _ _ rfl (by rfl) hS ?_; clear hS; (try clear ww); intro bb ww hS) | (refine w_st rfl _ _ rfl (by rfl) (by rfl) (by repeat constructor) (by rfl) (by rfl) (by first | rfl | assumption) hS ?_; clear hS; (try clear ww); intro ww hS) | (refine w_s1 rfl _ _ rfl (by rfl) (by repeat constructor) (by first | exact .c | exact .t rfl) (by rfl) (by repeat constructor) hS ?_; clear hS; (try clear ww); intro ww hS))
          go_ret
          exact ⟨ret_bool E1.out.symm, hS.below⟩
        · have E1 := Lib.hid (show lensOk a.lens = lensOk (a.lens.drop 3) by rw [hf]; simp [lensOk]; omega)
          clear hf
          go_wp2_with (first | (refine own_unguard (by rfl) ?_) | (refine w_ld rfl _ rfl (by rfl) (by first | exact rd_1 (by repeat constructor) (by first | rfl | assumption) | exact rd_w (by repeat constructor) (by rfl) | exact rd_o (by assumption) (by rfl) (by first | exact nmn | assumption | simp) | exact rd_h (by assumption) (by rfl) (by first | exact nmn | assumption | simp) | exact rd_1o (by assumption) (by first | exact nmn | assumption | simp) | exact rd_1h (by assumption) (by first | rfl | assumption) (by first | exact nmn | assumption | simp)) hS ?_) | (refine own_box rfl _ _ rfl (by rfl) hS ?_; clear hS; (try clear ww); intro bb ww hS) | (refine w_st rfl _ _ rfl (by rfl) (by rfl) (by repeat constructor) (by rfl) (by rfl) (by first | rfl | assumption) hS ?_; clear hS; (try clear ww); intro ww hS) | (refine w_s1 rfl _ _ rfl (by rfl) (by repeat constructor) (by first | exact .c | exact .t rfl) (by rfl) (by repeat constructor) hS ?_; clear hS; (try clear ww); intro ww hS))
          go_roundw
          case rel => exact ⟨3, by omega, rfl, E1.out, hS⟩
          case measure => decide
    · have ix := idx5_3 a.w a.h a.d a.x a.y
      by_cases h1 : a.x < -1073741824
      · have E1 := Lib.hid (ownOk_len (nk := nk) (show lensOk a.lens = false by rw [hf]; simp [lensOk]; omega))
        clear hf
        go_wp2_with (first | (refine own_unguard (by rfl) ?_) | (refine w_ld rfl _ rfl (by rfl) (by first | exact rd_1 (by repeat constructor) (by first | rfl | assumption) | exact rd_w (by repeat constructor) (by rfl) | exact rd_o (by assumption) (by rfl) (by first | exact nmn | assumption | simp) | exact rd_h (by assumption) (by rfl) (by first | exact nmn | assumption | simp) | exact rd_1o (by assumption) (by first | exact nmn | assumption | simp) | exact rd_1h (by assumption) (by first | rfl | assumption) (by first | exact nmn | assumption | simp)) hS ?_) | (refine own_box rfl _ _ rfl (by rfl) hS ?_; clear hS; (try clear ww); intro bb ww hS) | (refine w_st rfl _ _ rfl (by rfl) (by rfl) (by repeat constructor) (by rfl) (by rfl) (by first | rfl | assumption) hS ?_; clear hS; (try clear ww); intro ww hS) | (refine w_s1 rfl _ _ rfl (by rfl) (by repeat constructor) (by first | exact .c | exact .t rfl) (by rfl) (by repeat constructor) hS ?_; clear hS; (try clear ww); intro ww hS))
        go_ret
        exact ⟨ret_bool E1.out.symm, hS.below⟩
      · by_cases h2 : 1073741824 < a.x
        · have E1 := Lib.hid (ownOk_len (nk := nk) (show lensOk a.lens = false by rw [hf]; simp [lensOk]; omega))
          clear hf
          go_wp2_with (first | (refine own_unguard (by rfl) ?_) | (refine w_ld rfl _ rfl (by rfl) (by first | exact rd_1 (by repeat constructor) (by first | rfl | assumption) | exact rd_w (by repeat constructor) (by rfl) | exact rd_o (by assumption) (by rfl) (by first | exact nmn | assumption | simp) | exact rd_h (by assumption) (by rfl) (by first | exact nmn | assumption | simp) | exact rd_1o (by assumption) (by first | exact nmn | assumption | simp) | exact rd_1h (by assumption) (by first | rfl | assumption) (by first | exact nmn | assumption | simp)) hS ?_) | (refine own_box rfl _ _ rfl (by rfl) hS ?_; clear hS; (try clear ww); intro bb ww hS) | (refine w_st rfl _ _ rfl (by rfl) (by rfl) (by repeat constructor) (by rfl) (by rfl) (by first | rfl | assumption) hS ?_; clear hS; (try clear ww); intro ww hS) | (refine w_s1 rfl _ _ rfl (by rfl) (by repeat constructor) (by first | exact .c | exact .t rfl) (by rfl) (by repeat constructor) hS ?_; clear hS; (try clear ww); intro ww hS))
          go_ret
          exact ⟨ret_bool E1.out.symm, hS.below⟩
        · have E1 := Lib.hid (show lensOk a.lens = lensOk (a.lens.drop 4) by rw [hf]; simp [lensOk]; omega)
          clear hf
          go_wp2_with (first | (refine own_unguard (by rfl) ?_) | (refine w_ld rfl _ rfl (by rfl) (by first | exact rd_1 (by repeat constructor) (by first | rfl | assumption) | exact rd_w (by repeat constructor) (by rfl) | exact rd_o (by assumption) (by rfl) (by first | exact nmn | assumption | simp) | exact rd_h (by assumption) (by rfl) (by first | exact nmn | assumption | simp) | exact rd_1o (by assumption) (by first | exact nmn | assumption | simp) | exact rd_1h (by assumption) (by first | rfl | assumption) (by first | exact nmn | assumption | simp)) hS ?_) | (refine own_box rfl _ _ rfl (by rfl) hS ?_; clear hS; (try clear ww); intro bb ww hS) | (refine w_st rfl _ _ rfl (by rfl) (by rfl) (by repeat constructor) (by rfl) (by rfl) (by first | rfl | assumption) hS ?_; clear hS; (try clear ww); intro ww hS) | (refine w_s1 rfl _ _ rfl (by rfl) (by repeat constructor) (by first | exact .c | exact .t rfl) (by rfl) (by repeat constructor) hS ?_; clear hS; (try clear ww); intro ww hS))
          go_roundw
          case rel => exact ⟨4, by omega, rfl, E1.out, hS⟩
          case measure => decide
    · have ix := idx5_4 a.w a.h a.d a.x a.y
      by_cases h1 : a.y < -1073741824
      · have E1 := Lib.hid (ownOk_len (nk := nk) (show lensOk a.lens = false by rw [hf]; simp [lensOk]; omega))
        clear hf
        go_wp2_with (first | (refine own_unguard (by rfl) ?_) | (refine w_ld rfl _ rfl (by rfl) (by first | exact rd_1 (by repeat constructor) (by first | rfl | assumption) | exact rd_w (by repeat constructor) (by rfl) | exact rd_o (by assumption) (by rfl) (by first | exact nmn | assumption | simp) | exact rd_h (by assumption) (by rfl) (by first | exact nmn | assumption | simp) | exact rd_1o (by assumption) (by first | exact nmn | assumption | simp) | exact rd_1h (by assumption) (by first | rfl | assumption) (by first | exact nmn | assumption | simp)) hS ?_) | (refine own_box rfl _ _ rfl (by rfl) hS ?_; clear hS; (try clear ww); intro bb ww hS) | (refine w_st rfl _ _ rfl (by rfl) (by rfl) (by repeat constructor) (by rfl) (by rfl) (by first | rfl | assumption) hS ?_; clear hS; (try clear ww); intro ww hS) | (refine w_s1 rfl _ _ rfl (by rfl) (by repeat constructor) (by first | exact .c | exact .t rfl) (by rfl) (by repeat constructor) hS ?_; clear hS; (try clear ww); intro ww hS))
        go_ret
        exact ⟨ret_bool E1.out.symm, hS.below⟩
      · by_cases h2 : 1073741824 < a.y
        · have E1 := Lib.hid (ownOk_len (nk := nk) (show lensOk a.lens = false by rw [hf]; simp [lensOk]; omega))
          clear hf
          go_wp2_with (first | (refine own_unguard (by rfl) ?_) | (refine w_ld rfl _ rfl (by rfl) (by first | exact rd_1 (by repeat constructor) (by first | rfl | assumption) | exact rd_w (by repeat constructor) (by rfl) | exact rd_o (by assumption) (by rfl) (by first | exact nmn | assumption | simp) | exact rd_h (by assumption) (by rfl) (by first | exact nmn | assumption | simp) | exact rd_1o (by assumption) (by first | exact nmn | assumption | simp) | exact rd_1h (by assumption) (by first | rfl | assumption) (by first | exact nmn | assumption | simp)) hS ?_) | (refine own_box rfl _ _ rfl (by rfl) hS ?_; clear hS; (try clear ww); intro bb ww hS) | (refine w_st rfl _ _ rfl (by rfl) (by rfl) (by repeat constructor) (by rfl) (by rfl) (by first | rfl | assumption) hS ?_; clear hS; (try clear ww); intro ww hS) | (refine w_s1 rfl _ _ rfl (by rfl) (by repeat constructor) (by first | exact .c | exact .t rfl) (by rfl) (by repeat constructor) hS ?_; clear hS; (try clear ww); intro ww hS))
          go_ret
          exact ⟨ret_bool E1.out.symm, hS.below⟩
        · have E1 := Lib.hid (show lensOk a.lens = lensOk (a.lens.drop 5) by rw [hf]; simp [lensOk]; omega)
          clear hf
          go_wp2_with (first | (refine own_unguard (by rfl) ?_) | (refine w_ld rfl _ rfl (by rfl) (by first | exact rd_1 (by repeat constructor) (by first | rfl | assumption) | exact rd_w (by repeat constructor) (by rfl) | exact rd_o (by assumption) (by rfl) (by first | exact nmn | assumption | simp) | exact rd_h (by assumption) (by rfl) (by first | exact nmn | assumption | simp) | exact rd_1o (by assumption) (by first | exact nmn | assumption | simp) | exact rd_1h (by assumption) (by first | rfl | assumption) (by first | exact nmn | assumption | simp)) hS ?_) | (refine own_box rfl _ _ rfl (by rfl) hS ?_; clear hS; (try clear ww); intro bb ww hS) | (refine w_st rfl _ _ rfl (by rfl) (by rfl) (by repeat constructor) (by rfl) (by rfl) (by first | rfl | assumption) hS ?_; clear hS; (try clear ww); intro ww hS) | (refine w_s1 rfl _ _ rfl (by rfl) (by repeat constructor) (by first | exact .c | exact .t rfl) (by rfl) (by repeat constructor) hS ?_; clear hS; (try clear ww); intro ww hS))
          go_roundw
          case rel => exact ⟨5, by omega, rfl, E1.out, hS⟩
          case measure => decide
    · have E0 := Lib.hid (ownOk_kind (nk := nk) (show lensOk a.lens = true by rw [hf]; rfl))
      clear hf
      cases hq : srcOk a
      all_goals
        have HQ := Lib.hid hq
        rw [hq] at E0
        clear hq
      · by_cases k1 : a.kind = 1
        · cases hn : nameOk a.name
          · have HN := Lib.hid hn
            have E1 := Lib.hid (show ownOk a nk = false by rw [E0.out, kind_1 k1, hn]; simp)
            clear hn E0
            go_wp2_with (first | (refine own_unguard (by rfl) ?_) | (go_at_call 78; refine own_callsS hS (box_named_v hnm HN) ?_) | (go_at_call 79; refine own_calls hS (box_source_v (hS.range (by simp) HR.out) (HS.out.own hS) hl HQ) ?_; clear hS; (try clear ww); intro ww hS) | (refine w_ld rfl _ rfl (by rfl) (by first | exact rd_1 (by repeat constructor) (by first | rfl | assumption) | exact rd_w (by repeat constructor) (by rfl) | exact rd_o (by assumption) (by rfl) (by first | exact nmn | assumption | simp) | exact rd_h (by assumption) (by rfl) (by first | exact nmn | assumption | simp) | exact rd_1o (by assumption) (by first | exact nmn | assumption | simp) | exact rd_1h (by assumption) (by first | rfl | assumption) (by first | exact nmn | assumption | simp)) hS ?_) | (refine own_box rfl _ _ rfl (by rfl) hS ?_; clear hS; (try clear ww); intro bb ww hS) | (refine w_st rfl _ _ rfl (by rfl) (by rfl) (by repeat constructor) (by rfl) (by rfl) (by first | rfl | assumption) hS ?_; clear hS; (try clear ww); intro ww hS) | (refine w_s1 rfl _ _ rfl (by rfl) (by repeat constructor) (by first | exact .c | exact .t rfl) (by rfl) (by repeat constructor) hS ?_; clear hS; (try clear ww); intro ww hS))
            all_goals (go_ret; exact ⟨ret_bool E1.out.symm, hS.below⟩)
          · have HN := Lib.hid hn
            have E1 := Lib.hid (show ownOk a nk = false by rw [E0.out, kind_1 k1, hn]; simp)
            clear hn E0
            go_wp2_with (first | (refine own_unguard (by rfl) ?_) | (go_at_call 78; refine own_callsS hS (box_named_v hnm HN) ?_) | (go_at_call 79; refine own_calls hS (box_source_v (hS.range (by simp) HR.out) (HS.out.own hS) hl HQ) ?_; clear hS; (try clear ww); intro ww hS) | (refine w_ld rfl _ rfl (by rfl) (by first | exact rd_1 (by repeat constructor) (by first | rfl | assumption) | exact rd_w (by repeat constructor) (by rfl) | exact rd_o (by assumption) (by rfl) (by first | exact nmn | assumption | simp) | exact rd_h (by assumption) (by rfl) (by first | exact nmn | assumption | simp) | exact rd_1o (by assumption) (by first | exact nmn | assumption | simp) | exact rd_1h (by assumption) (by first | rfl | assumption) (by first | exact nmn | assumption | simp)) hS ?_) | (refine own_box rfl _ _ rfl (by rfl) hS ?_; clear hS; (try clear ww); intro bb ww hS) | (refine w_st rfl _ _ rfl (by rfl) (by rfl) (by repeat constructor) (by rfl) (by rfl) (by first | rfl | assumption) hS ?_; clear hS; (try clear ww); intro ww hS) | (refine w_s1 rfl _ _ rfl (by rfl) (by repeat constructor) (by first | exact .c | exact .t rfl) (by rfl) (by repeat constructor) hS ?_; clear hS; (try clear ww); intro ww hS))
            all_goals (go_ret; exact ⟨ret_bool E1.out.symm, hS.below⟩)
        · by_cases k2 : a.kind = 2
          · have E1 := Lib.hid (show ownOk a nk = false by rw [E0.out, kind_2 k2]; simp)
            clear E0
            go_wp2_with (first | (refine own_unguard (by rfl) ?_) | (go_at_call 78; refine own_callsS hS (box_named_v hnm HN) ?_) | (go_at_call 79; refine own_calls hS (box_source_v (hS.range (by simp) HR.out) (HS.out.own hS) hl HQ) ?_; clear hS; (try clear ww); intro ww hS) | (refine w_ld rfl _ rfl (by rfl) (by first | exact rd_1 (by repeat constructor) (by first | rfl | assumption) | exact rd_w (by repeat constructor) (by rfl) | exact rd_o (by assumption) (by rfl) (by first | exact nmn | assumption | simp) | exact rd_h (by assumption) (by rfl) (by first | exact nmn | assumption | simp) | exact rd_1o (by assumption) (by first | exact nmn | assumption | simp) | exact rd_1h (by assumption) (by first | rfl | assumption) (by first | exact nmn | assumption | simp)) hS ?_) | (refine own_box rfl _ _ rfl (by rfl) hS ?_; clear hS; (try clear ww); intro bb ww hS) | (refine w_st rfl _ _ rfl (by rfl) (by rfl) (by repeat constructor) (by rfl) (by rfl) (by first | rfl | assumption) hS ?_; clear hS; (try clear ww); intro ww hS) | (refine w_s1 rfl _ _ rfl (by rfl) (by repeat constructor) (by first | exact .c | exact .t rfl) (by rfl) (by repeat constructor) hS ?_; clear hS; (try clear ww); intro ww hS))
            all_goals (go_ret; exact ⟨ret_bool E1.out.symm, hS.below⟩)
          · by_cases k3 : a.kind = 3
            · have E1 := Lib.hid (show ownOk a nk = false by rw [E0.out, kind_3 k3]; simp)
              clear E0
              go_wp2_with (first | (refine own_unguard (by rfl) ?_) | (go_at_call 78; refine own_callsS hS (box_named_v hnm HN) ?_) | (go_at_call 79; refine own_calls hS (box_source_v (hS.range (by simp) HR.out) (HS.out.own hS) hl HQ) ?_; clear hS; (try clear ww); intro ww hS) | (refine w_ld rfl _ rfl (by rfl) (by first | exact rd_1 (by repeat constructor) (by first | rfl | assumption) | exact rd_w (by repeat constructor) (by rfl) | exact rd_o (by assumption) (by rfl) (by first | exact nmn | assumption | simp) | exact rd_h (by assumption) (by rfl) (by first | exact nmn | assumption | simp) | exact rd_1o (by assumption) (by first | exact nmn | assumption | simp) | exact rd_1h (by assumption) (by first | rfl | assumption) (by first | exact nmn | assumption | simp)) hS ?_) | (refine own_box rfl _ _ rfl (by rfl) hS ?_; clear hS; (try clear ww); intro bb ww hS) | (refine w_st rfl _ _ rfl (by rfl) (by rfl) (by repeat constructor) (by rfl) (by rfl) (by first | rfl | assumption) hS ?_; clear hS; (try clear ww); intro ww hS) | (refine w_s1 rfl _ _ rfl (by rfl) (by repeat constructor) (by first | exact .c | exact .t rfl) (by rfl) (by repeat constructor) hS ?_; clear hS; (try clear ww); intro ww hS))
              all_goals (go_ret; exact ⟨ret_bool E1.out.symm, hS.below⟩)
            · have E1 := Lib.hid (show ownOk a nk = false by rw [E0.out, kind_4 k1 k2 k3]; rfl)
              clear E0
              go_wp2_with (first | (refine own_unguard (by rfl) ?_) | (go_at_call 78; refine own_callsS hS (box_named_v hnm HN) ?_) | (go_at_call 79; refine own_calls hS (box_source_v (hS.range (by simp) HR.out) (HS.out.own hS) hl HQ) ?_; clear hS; (try clear ww); intro ww hS) | (refine w_ld rfl _ rfl (by rfl) (by first | exact rd_1 (by repeat constructor) (by first | rfl | assumption) | exact rd_w (by repeat constructor) (by rfl) | exact rd_o (by assumption) (by rfl) (by first | exact nmn | assumption | simp) | exact rd_h (by assumption) (by rfl) (by first | exact nmn | assumption | simp) | exact rd_1o (by assumption) (by first | exact nmn | assumption | simp) | exact rd_1h (by assumption) (by first | rfl | assumption) (by first | exact nmn | assumption | simp)) hS ?_) | (refine own_box rfl _ _ rfl (by rfl) hS ?_; clear hS; (try clear ww); intro bb ww hS) | (refine w_st rfl _ _ rfl (by rfl) (by rfl) (by repeat constructor) (by rfl) (by rfl) (by first | rfl | assumption) hS ?_; clear hS; (try clear ww); intro ww hS) | (refine w_s1 rfl _ _ rfl (by rfl) (by repeat constructor) (by first | exact .c | exact .t rfl) (by rfl) (by repeat constructor) hS ?_; clear hS; (try clear ww); intro ww hS))
              all_goals (go_ret; exact ⟨ret_bool E1.out.symm, hS.below⟩)
      · by_cases k1 : a.kind = 1
        · cases hn : nameOk a.name
          · have HN := Lib.hid hn
            have E1 := Lib.hid (show ownOk a nk = false by rw [E0.out, kind_1 k1, hn]; rfl)
            clear hn E0
            go_wp2_with (first | (refine own_unguard (by rfl) ?_) | (go_at_call 78; refine own_callsS hS (box_named_v hnm HN) ?_) | (go_at_call 79; refine own_calls hS (box_source_v (hS.range (by simp) HR.out) (HS.out.own hS) hl HQ) ?_; clear hS; (try clear ww); intro ww hS) | (refine w_ld rfl _ rfl (by rfl) (by first | exact rd_1 (by repeat constructor) (by first | rfl | assumption) | exact rd_w (by repeat constructor) (by rfl) | exact rd_o (by assumption) (by rfl) (by first | exact nmn | assumption | simp) | exact rd_h (by assumption) (by rfl) (by first | exact nmn | assumption | simp) | exact rd_1o (by assumption) (by first | exact nmn | assumption | simp) | exact rd_1h (by assumption) (by first | rfl | assumption) (by first | exact nmn | assumption | simp)) hS ?_) | (refine own_box rfl _ _ rfl (by rfl) hS ?_; clear hS; (try clear ww); intro bb ww hS) | (refine w_st rfl _ _ rfl (by rfl) (by rfl) (by repeat constructor) (by rfl) (by rfl) (by first | rfl | assumption) hS ?_; clear hS; (try clear ww); intro ww hS) | (refine w_s1 rfl _ _ rfl (by rfl) (by repeat constructor) (by first | exact .c | exact .t rfl) (by rfl) (by repeat constructor) hS ?_; clear hS; (try clear ww); intro ww hS))
            all_goals (go_ret; exact ⟨ret_bool E1.out.symm, hS.below⟩)
          · have HN := Lib.hid hn
            have E1 := Lib.hid (show ownOk a nk = ((decide (1 ≤ a.size) && decide (a.size ≤ 1000)) && decide (nk = 0)) by rw [E0.out, kind_1 k1, hn]; simp)
            clear hn E0
            go_wp2_with (first | (refine own_unguard (by rfl) ?_) | (go_at_call 78; refine own_callsS hS (box_named_v hnm HN) ?_) | (go_at_call 79; refine own_calls hS (box_source_v (hS.range (by simp) HR.out) (HS.out.own hS) hl HQ) ?_; clear hS; (try clear ww); intro ww hS) | (refine w_ld rfl _ rfl (by rfl) (by first | exact rd_1 (by repeat constructor) (by first | rfl | assumption) | exact rd_w (by repeat constructor) (by rfl) | exact rd_o (by assumption) (by rfl) (by first | exact nmn | assumption | simp) | exact rd_h (by assumption) (by rfl) (by first | exact nmn | assumption | simp) | exact rd_1o (by assumption) (by first | exact nmn | assumption | simp) | exact rd_1h (by assumption) (by first | rfl | assumption) (by first | exact nmn | assumption | simp)) hS ?_) | (refine own_box rfl _ _ rfl (by rfl) hS ?_; clear hS; (try clear ww); intro bb ww hS) | (refine w_st rfl _ _ rfl (by rfl) (by rfl) (by repeat constructor) (by rfl) (by rfl) (by first | rfl | assumption) hS ?_; clear hS; (try clear ww); intro ww hS) | (refine w_s1 rfl _ _ rfl (by rfl) (by repeat constructor) (by first | exact .c | exact .t rfl) (by rfl) (by repeat constructor) hS ?_; clear hS; (try clear ww); intro ww hS))
            all_goals (go_ret; refine ⟨ret_bool ?_, hS.below⟩; rw [E1.out, Bool.eq_iff_iff]; simp only [Bool.and_eq_true, decide_eq_true_eq, Bool.false_eq_true]; first | omega | (simp only [false_iff]; omega) | (simp only [true_iff]; omega))
        · by_cases k2 : a.kind = 2
          · have E1 := Lib.hid (show ownOk a nk = ((a.name.toList == []) && decide (a.size = 0) && decide (nk = 0)) by rw [E0.out, kind_2 k2]; simp)
            clear E0
            go_wp2_with (first | (refine own_unguard (by rfl) ?_) | (go_at_call 78; refine own_callsS hS (box_named_v hnm HN) ?_) | (go_at_call 79; refine own_calls hS (box_source_v (hS.range (by simp) HR.out) (HS.out.own hS) hl HQ) ?_; clear hS; (try clear ww); intro ww hS) | (refine w_ld rfl _ rfl (by rfl) (by first | exact rd_1 (by repeat constructor) (by first | rfl | assumption) | exact rd_w (by repeat constructor) (by rfl) | exact rd_o (by assumption) (by rfl) (by first | exact nmn | assumption | simp) | exact rd_h (by assumption) (by rfl) (by first | exact nmn | assumption | simp) | exact rd_1o (by assumption) (by first | exact nmn | assumption | simp) | exact rd_1h (by assumption) (by first | rfl | assumption) (by first | exact nmn | assumption | simp)) hS ?_) | (refine own_box rfl _ _ rfl (by rfl) hS ?_; clear hS; (try clear ww); intro bb ww hS) | (refine w_st rfl _ _ rfl (by rfl) (by rfl) (by repeat constructor) (by rfl) (by rfl) (by first | rfl | assumption) hS ?_; clear hS; (try clear ww); intro ww hS) | (refine w_s1 rfl _ _ rfl (by rfl) (by repeat constructor) (by first | exact .c | exact .t rfl) (by rfl) (by repeat constructor) hS ?_; clear hS; (try clear ww); intro ww hS))
            all_goals (go_ret; exact ⟨ret_bool (by rw [E1.out]; simp [*]), hS.below⟩)
          · by_cases k3 : a.kind = 3
            · have E1 := Lib.hid (show ownOk a nk = ((a.name.toList == []) && decide (a.size = 0)) by rw [E0.out, kind_3 k3]; simp)
              clear E0
              go_wp2_with (first | (refine own_unguard (by rfl) ?_) | (go_at_call 78; refine own_callsS hS (box_named_v hnm HN) ?_) | (go_at_call 79; refine own_calls hS (box_source_v (hS.range (by simp) HR.out) (HS.out.own hS) hl HQ) ?_; clear hS; (try clear ww); intro ww hS) | (refine w_ld rfl _ rfl (by rfl) (by first | exact rd_1 (by repeat constructor) (by first | rfl | assumption) | exact rd_w (by repeat constructor) (by rfl) | exact rd_o (by assumption) (by rfl) (by first | exact nmn | assumption | simp) | exact rd_h (by assumption) (by rfl) (by first | exact nmn | assumption | simp) | exact rd_1o (by assumption) (by first | exact nmn | assumption | simp) | exact rd_1h (by assumption) (by first | rfl | assumption) (by first | exact nmn | assumption | simp)) hS ?_) | (refine own_box rfl _ _ rfl (by rfl) hS ?_; clear hS; (try clear ww); intro bb ww hS) | (refine w_st rfl _ _ rfl (by rfl) (by rfl) (by repeat constructor) (by rfl) (by rfl) (by first | rfl | assumption) hS ?_; clear hS; (try clear ww); intro ww hS) | (refine w_s1 rfl _ _ rfl (by rfl) (by repeat constructor) (by first | exact .c | exact .t rfl) (by rfl) (by repeat constructor) hS ?_; clear hS; (try clear ww); intro ww hS))
              all_goals (go_ret; exact ⟨ret_bool (by rw [E1.out]; simp [*]), hS.below⟩)
            · have E1 := Lib.hid (show ownOk a nk = false by rw [E0.out, kind_4 k1 k2 k3]; rfl)
              clear E0
              go_wp2_with (first | (refine own_unguard (by rfl) ?_) | (go_at_call 78; refine own_callsS hS (box_named_v hnm HN) ?_) | (go_at_call 79; refine own_calls hS (box_source_v (hS.range (by simp) HR.out) (HS.out.own hS) hl HQ) ?_; clear hS; (try clear ww); intro ww hS) | (refine w_ld rfl _ rfl (by rfl) (by first | exact rd_1 (by repeat constructor) (by first | rfl | assumption) | exact rd_w (by repeat constructor) (by rfl) | exact rd_o (by assumption) (by rfl) (by first | exact nmn | assumption | simp) | exact rd_h (by assumption) (by rfl) (by first | exact nmn | assumption | simp) | exact rd_1o (by assumption) (by first | exact nmn | assumption | simp) | exact rd_1h (by assumption) (by first | rfl | assumption) (by first | exact nmn | assumption | simp)) hS ?_) | (refine own_box rfl _ _ rfl (by rfl) hS ?_; clear hS; (try clear ww); intro bb ww hS) | (refine w_st rfl _ _ rfl (by rfl) (by rfl) (by repeat constructor) (by rfl) (by rfl) (by first | rfl | assumption) hS ?_; clear hS; (try clear ww); intro ww hS) | (refine w_s1 rfl _ _ rfl (by rfl) (by repeat constructor) (by first | exact .c | exact .t rfl) (by rfl) (by repeat constructor) hS ?_; clear hS; (try clear ww); intro ww hS))
              all_goals (go_ret; exact ⟨ret_bool E1.out.symm, hS.below⟩)

end Go.Proofs.Ytgpabckipmhobaa
