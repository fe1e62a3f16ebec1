/- Texts Pick, Lte, Fre, Ita, Rsi, Rit. -/
import Derived.Test.YtceigjonhabmmaaJ01
import Derived.Test.YtceigjonhabmmaaJ05
import Derived.Test.YtceigjonhabmmaaJ15
import Derived.Test.YtceigjonhabmmaaJ12
import Derived.Test.YtceigjonhabmmaaJ07
import Derived.Test.YtceigjonhabmmaaJ08
namespace Go.Proofs.Ytceigjonhabmmaa
open Go.RowKit

attribute [local irreducible] wpQuiet wpList Code.wp

theorem GlysAt.below {w w' : World} {v : Value} {gs : List Gly} (h : GlysAt w v gs) (hb : Below w.heap.size w w') : GlysAt w' v gs := by
  rcases h with h | ⟨b, o, c, rfl, h⟩
  · exact .inl h
  · refine .inr ⟨b, o, c, rfl, fun i g hi => ?_⟩
    obtain ⟨h0, h1, h2, h3, h4, h5⟩ := h i g hi
    have hl : b < w.heap.size := World.block_lt_of_cell? w _ h0
    exact ⟨(hb.cell hl).trans h0, (hb.cell hl).trans h1, (hb.cell hl).trans h2, (hb.cell hl).trans h3, (hb.cell hl).trans h4, (hb.cell hl).trans h5⟩

/-- What Pick returns. -/
def pickG (gs : List Gly) (s : ByteArray) : Gly :=
  match findG gs s with
  | some g => g
  | none => match findG gs ⟨#[63]⟩ with
    | some g => g
    | none => { name := s, w := 0, h := 0, d := 0, it := 0, at_ := 0 }

theorem pickG_one {gs : List Gly} {s : ByteArray} (g : Gly) (h : findG gs s = some g) : pickG gs s = g := by unfold pickG; rw [h]
theorem pickG_two {gs : List Gly} {s : ByteArray} (g : Gly) (h : findG gs s = none) (h2 : findG gs ⟨#[63]⟩ = some g) : pickG gs s = g := by unfold pickG; rw [h]; simp only [h2]
theorem pickG_three {gs : List Gly} {s : ByteArray} (h : findG gs s = none) (h2 : findG gs ⟨#[63]⟩ = none) : pickG gs s = { name := s, w := 0, h := 0, d := 0, it := 0, at_ := 0 } := by unfold pickG; rw [h]; simp only [h2]

set_option maxHeartbeats 4000000 in
set_option maxRecDepth 100000 in
theorem font_Pick_one (x y : Option Addr) (n c m d : Nat) (q0 q1 q2 q3 q4 q5 q6 q7 q8 q9 q10 q11 q12 q13 q14 q15 q16 q17 q18 q19 : Int) (s : ByteArray) (g : Gly) (w : World)
    (H : ∀ w', Below w.heap.size w w' → Calls Try.prog 85 #[.agg #[.slice x n c, .slice y m d, .int .i64 q0, .int .i64 q1, .int .i64 q2, .int .i64 q3, .int .i64 q4, .int .i64 q5, .int .i64 q6, .int .i64 q7, .int .i64 q8, .int .i64 q9, .int .i64 q10, .int .i64 q11, .int .i64 q12, .int .i64 q13, .int .i64 q14, .int .i64 q15, .int .i64 q16, .int .i64 q17, .int .i64 q18, .int .i64 q19], .string s] w' (Gives (.tuple #[.agg #[.string g.name, .int .i64 g.w, .int .i64 g.h, .int .i64 g.d, .int .i64 g.it, .int .i64 g.at_], .bool true]) w')) :
    Calls Try.prog 60 #[.agg #[.slice x n c, .slice y m d, .int .i64 q0, .int .i64 q1, .int .i64 q2, .int .i64 q3, .int .i64 q4, .int .i64 q5, .int .i64 q6, .int .i64 q7, .int .i64 q8, .int .i64 q9, .int .i64 q10, .int .i64 q11, .int .i64 q12, .int .i64 q13, .int .i64 q14, .int .i64 q15, .int .i64 q16, .int .i64 q17, .int .i64 q18, .int .i64 q19], .string s] w (Gives (.agg #[.string g.name, .int .i64 g.w, .int .i64 g.h, .int .i64 g.d, .int .i64 g.it, .int .i64 g.at_]) w) := by
  have H1 := Lib.hid H
  clear H
  go_enter Try.func60, Try.ntmps60
  have hS := own_start w
  go_wp2_with (first | (refine own_unguard (by rfl) ?_) | (go_at_call 85; refine own_calls hS (H1.out _ hS.below) ?_; clear hS; (try clear ww); intro ww hS) | (refine w_ld rfl _ rfl (by rfl) (by first | exact rd_1 (by repeat constructor) (by first | rfl | assumption) | exact rd_w (by repeat constructor) (by rfl) | exact rd_o (by assumption) (by rfl) (by first | exact nmn | assumption | simp) | exact rd_h (by assumption) (by rfl) (by first | exact nmn | assumption | simp) | exact rd_1o (by assumption) (by first | exact nmn | assumption | simp) | exact rd_1h (by assumption) (by first | rfl | assumption) (by first | exact nmn | assumption | simp)) hS ?_) | (refine own_box rfl _ _ rfl (by rfl) hS ?_; clear hS; (try clear ww); intro bb ww hS) | (refine w_al rfl rfl hS ?_; clear hS; (try clear ww); intro bb ww hS) | (refine w_st rfl _ _ rfl (by rfl) (by rfl) (by repeat constructor) (by rfl) (by rfl) (by first | rfl | assumption) hS ?_; clear hS; (try clear ww); intro ww hS) | (refine w_s1 rfl _ _ rfl (by rfl) (by repeat constructor) (by first | exact .c | exact .t rfl) (by rfl) (by repeat constructor) hS ?_; clear hS; (try clear ww); intro ww hS))
  have hc := (hS.get at1).cell
  refine bodyPost_ret (v := .agg #[.string g.name, .int .i64 g.w, .int .i64 g.h, .int .i64 g.d, .int .i64 g.it, .int .i64 g.at_]) (by simp [results, Try.results60, go_sem, hc]) rfl (own_gives hS)

set_option maxHeartbeats 4000000 in
set_option maxRecDepth 100000 in
theorem font_Pick_two (x y : Option Addr) (n c m d : Nat) (q0 q1 q2 q3 q4 q5 q6 q7 q8 q9 q10 q11 q12 q13 q14 q15 q16 q17 q18 q19 : Int) (s : ByteArray) (g : Gly) (w : World)
    (H : ∀ w', Below w.heap.size w w' → Calls Try.prog 85 #[.agg #[.slice x n c, .slice y m d, .int .i64 q0, .int .i64 q1, .int .i64 q2, .int .i64 q3, .int .i64 q4, .int .i64 q5, .int .i64 q6, .int .i64 q7, .int .i64 q8, .int .i64 q9, .int .i64 q10, .int .i64 q11, .int .i64 q12, .int .i64 q13, .int .i64 q14, .int .i64 q15, .int .i64 q16, .int .i64 q17, .int .i64 q18, .int .i64 q19], .string s] w' (Gives (.tuple #[.agg #[.string ⟨#[]⟩, .int .i64 0, .int .i64 0, .int .i64 0, .int .i64 0, .int .i64 0], .bool false]) w'))
    (H' : ∀ w', Below w.heap.size w w' → Calls Try.prog 85 #[.agg #[.slice x n c, .slice y m d, .int .i64 q0, .int .i64 q1, .int .i64 q2, .int .i64 q3, .int .i64 q4, .int .i64 q5, .int .i64 q6, .int .i64 q7, .int .i64 q8, .int .i64 q9, .int .i64 q10, .int .i64 q11, .int .i64 q12, .int .i64 q13, .int .i64 q14, .int .i64 q15, .int .i64 q16, .int .i64 q17, .int .i64 q18, .int .i64 q19], .string ⟨#[63]⟩] w' (Gives (.tuple #[.agg #[.string g.name, .int .i64 g.w, .int .i64 g.h, .int .i64 g.d, .int .i64 g.it, .int .i64 g.at_], .bool true]) w')) :
    Calls Try.prog 60 #[.agg #[.slice x n c, .slice y m d, .int .i64 q0, .int .i64 q1, .int .i64 q2, .int .i64 q3, .int .i64 q4, .int .i64 q5, .int .i64 q6, .int .i64 q7, .int .i64 q8, .int .i64 q9, .int .i64 q10, .int .i64 q11, .int .i64 q12, .int .i64 q13, .int .i64 q14, .int .i64 q15, .int .i64 q16, .int .i64 q17, .int .i64 q18, .int .i64 q19], .string s] w (Gives (.agg #[.string g.name, .int .i64 g.w, .int .i64 g.h, .int .i64 g.d, .int .i64 g.it, .int .i64 g.at_]) w) := by
  have H1 := Lib.hid H
  have H2 := Lib.hid H'
  clear H H'
  go_enter Try.func60, Try.ntmps60
  have hS := own_start w
  have tok1 : True := trivial
  go_wp2_with (first | (refine own_unguard (by rfl) ?_) | (go_at_call 85; have _t := tok1; refine own_calls hS (H1.out _ hS.below) ?_; clear hS tok1; (try clear ww); intro ww hS) | (go_at_call 85; refine own_calls hS (H2.out _ hS.below) ?_; clear hS; (try clear ww); intro ww hS) | (refine w_ld rfl _ rfl (by rfl) (by first | exact rd_1 (by repeat constructor) (by first | rfl | assumption) | exact rd_w (by repeat constructor) (by rfl) | exact rd_o (by assumption) (by rfl) (by first | exact nmn | assumption | simp) | exact rd_h (by assumption) (by rfl) (by first | exact nmn | assumption | simp) | exact rd_1o (by assumption) (by first | exact nmn | assumption | simp) | exact rd_1h (by assumption) (by first | rfl | assumption) (by first | exact nmn | assumption | simp)) hS ?_) | (refine own_box rfl _ _ rfl (by rfl) hS ?_; clear hS; (try clear ww); intro bb ww hS) | (refine w_al rfl rfl hS ?_; clear hS; (try clear ww); intro bb ww hS) | (refine w_st rfl _ _ rfl (by rfl) (by rfl) (by repeat constructor) (by rfl) (by rfl) (by first | rfl | assumption) hS ?_; clear hS; (try clear ww); intro ww hS) | (refine w_s1 rfl _ _ rfl (by rfl) (by repeat constructor) (by first | exact .c | exact .t rfl) (by rfl) (by repeat constructor) hS ?_; clear hS; (try clear ww); intro ww hS))
  have hc := (hS.get at2).cell
  refine bodyPost_ret (v := .agg #[.string g.name, .int .i64 g.w, .int .i64 g.h, .int .i64 g.d, .int .i64 g.it, .int .i64 g.at_]) (by simp [results, Try.results60, go_sem, hc]) rfl (own_gives hS)

set_option maxHeartbeats 4000000 in
set_option maxRecDepth 100000 in
theorem font_Pick_three (x y : Option Addr) (n c m d : Nat) (q0 q1 q2 q3 q4 q5 q6 q7 q8 q9 q10 q11 q12 q13 q14 q15 q16 q17 q18 q19 : Int) (s : ByteArray) (w : World)
    (H : ∀ w', Below w.heap.size w w' → Calls Try.prog 85 #[.agg #[.slice x n c, .slice y m d, .int .i64 q0, .int .i64 q1, .int .i64 q2, .int .i64 q3, .int .i64 q4, .int .i64 q5, .int .i64 q6, .int .i64 q7, .int .i64 q8, .int .i64 q9, .int .i64 q10, .int .i64 q11, .int .i64 q12, .int .i64 q13, .int .i64 q14, .int .i64 q15, .int .i64 q16, .int .i64 q17, .int .i64 q18, .int .i64 q19], .string s] w' (Gives (.tuple #[.agg #[.string ⟨#[]⟩, .int .i64 0, .int .i64 0, .int .i64 0, .int .i64 0, .int .i64 0], .bool false]) w'))
    (H' : ∀ w', Below w.heap.size w w' → Calls Try.prog 85 #[.agg #[.slice x n c, .slice y m d, .int .i64 q0, .int .i64 q1, .int .i64 q2, .int .i64 q3, .int .i64 q4, .int .i64 q5, .int .i64 q6, .int .i64 q7, .int .i64 q8, .int .i64 q9, .int .i64 q10, .int .i64 q11, .int .i64 q12, .int .i64 q13, .int .i64 q14, .int .i64 q15, .int .i64 q16, .int .i64 q17, .int .i64 q18, .int .i64 q19], .string ⟨#[63]⟩] w' (Gives (.tuple #[.agg #[.string ⟨#[]⟩, .int .i64 0, .int .i64 0, .int .i64 0, .int .i64 0, .int .i64 0], .bool false]) w')) :
    Calls Try.prog 60 #[.agg #[.slice x n c, .slice y m d, .int .i64 q0, .int .i64 q1, .int .i64 q2, .int .i64 q3, .int .i64 q4, .int .i64 q5, .int .i64 q6, .int .i64 q7, .int .i64 q8, .int .i64 q9, .int .i64 q10, .int .i64 q11, .int .i64 q12, .int .i64 q13, .int .i64 q14, .int .i64 q15, .int .i64 q16, .int .i64 q17, .int .i64 q18, .int .i64 q19], .string s] w (Gives (.agg #[.string s, .int .i64 0, .int .i64 0, .int .i64 0, .int .i64 0, .int .i64 0]) w) := by
  have H1 := Lib.hid H
  have H2 := Lib.hid H'
  clear H H'
  go_enter Try.func60, Try.ntmps60
  have hS := own_start w
  have tok1 : True := trivial
  go_wp2_with (first | (refine own_unguard (by rfl) ?_) | (go_at_call 85; have _t := tok1; refine own_calls hS (H1.out _ hS.below) ?_; clear hS tok1; (try clear ww); intro ww hS) | (go_at_call 85; refine own_calls hS (H2.out _ hS.below) ?_; clear hS; (try clear ww); intro ww hS) | (refine w_ld rfl _ rfl (by rfl) (by first | exact rd_1 (by repeat constructor) (by first | rfl | assumption) | exact rd_w (by repeat constructor) (by rfl) | exact rd_o (by assumption) (by rfl) (by first | exact nmn | assumption | simp) | exact rd_h (by assumption) (by rfl) (by first | exact nmn | assumption | simp) | exact rd_1o (by assumption) (by first | exact nmn | assumption | simp) | exact rd_1h (by assumption) (by first | rfl | assumption) (by first | exact nmn | assumption | simp)) hS ?_) | (refine own_box rfl _ _ rfl (by rfl) hS ?_; clear hS; (try clear ww); intro bb ww hS) | (refine w_al rfl rfl hS ?_; clear hS; (try clear ww); intro bb ww hS) | (refine w_st rfl _ _ rfl (by rfl) (by rfl) (by repeat constructor) (by rfl) (by rfl) (by first | rfl | assumption) hS ?_; clear hS; (try clear ww); intro ww hS) | (refine w_s1 rfl _ _ rfl (by rfl) (by repeat constructor) (by first | exact .c | exact .t rfl) (by rfl) (by repeat constructor) hS ?_; clear hS; (try clear ww); intro ww hS))
  have hc := (hS.get at2).cell
  refine bodyPost_ret (v := .agg #[.string s, .int .i64 0, .int .i64 0, .int .i64 0, .int .i64 0, .int .i64 0]) (by simp [results, Try.results60, go_sem, hc]) rfl (own_gives hS)

theorem font_Pick_calls (x y : Option Addr) (n c m d : Nat) (q0 q1 q2 q3 q4 q5 q6 q7 q8 q9 q10 q11 q12 q13 q14 q15 q16 q17 q18 q19 : Int) (gs : List Gly) (s : ByteArray) (w : World) (hn : gs.length ≤ 1000000) (h : GlysAt w (.slice x n c) gs) :
    Calls Try.prog 60 #[.agg #[.slice x n c, .slice y m d, .int .i64 q0, .int .i64 q1, .int .i64 q2, .int .i64 q3, .int .i64 q4, .int .i64 q5, .int .i64 q6, .int .i64 q7, .int .i64 q8, .int .i64 q9, .int .i64 q10, .int .i64 q11, .int .i64 q12, .int .i64 q13, .int .i64 q14, .int .i64 q15, .int .i64 q16, .int .i64 q17, .int .i64 q18, .int .i64 q19], .string s] w (Gives (.agg #[.string (pickG gs s).name, .int .i64 (pickG gs s).w, .int .i64 (pickG gs s).h, .int .i64 (pickG gs s).d, .int .i64 (pickG gs s).it, .int .i64 (pickG gs s).at_]) w) := by
  have HC := fun (w' : World) (s' : ByteArray) (hb : Below w.heap.size w w') => font_Find_calls (.slice x n c) (.slice y m d) (.int .i64 q0) (.int .i64 q1) (.int .i64 q2) (.int .i64 q3) (.int .i64 q4) (.int .i64 q5) (.int .i64 q6) (.int .i64 q7) (.int .i64 q8) (.int .i64 q9) (.int .i64 q10) (.int .i64 q11) (.int .i64 q12) (.int .i64 q13) (.int .i64 q14) (.int .i64 q15) (.int .i64 q16) (.int .i64 q17) (.int .i64 q18) (.int .i64 q19) gs s' w' hn (h.below hb)
  cases hf : findG gs s with
  | some g =>
    rw [pickG_one g hf]
    exact font_Pick_one x y n c m d q0 q1 q2 q3 q4 q5 q6 q7 q8 q9 q10 q11 q12 q13 q14 q15 q16 q17 q18 q19 s g w (fun w' hb => by have := HC w' s hb; rw [hf] at this; exact this)
  | none =>
    cases hq : findG gs ⟨#[63]⟩ with
    | some g =>
      rw [pickG_two g hf hq]
      exact font_Pick_two x y n c m d q0 q1 q2 q3 q4 q5 q6 q7 q8 q9 q10 q11 q12 q13 q14 q15 q16 q17 q18 q19 s g w (fun w' hb => by have := HC w' s hb; rw [hf] at this; exact this) (fun w' hb => by have := HC w' ⟨#[63]⟩ hb; rw [hq] at this; exact this)
    | none =>
      rw [pickG_three hf hq]
      exact font_Pick_three x y n c m d q0 q1 q2 q3 q4 q5 q6 q7 q8 q9 q10 q11 q12 q13 q14 q15 q16 q17 q18 q19 s w (fun w' hb => by have := HC w' s hb; rw [hf] at this; exact this) (fun w' hb => by have := HC w' ⟨#[63]⟩ hb; rw [hq] at this; exact this)

set_option maxHeartbeats 4000000 in
set_option maxRecDepth 100000 in
theorem ref05_Pick_one (x y : Option Addr) (n c m d : Nat) (q0 q1 q2 q3 q4 q5 q6 q7 q8 q9 q10 q11 q12 q13 q14 q15 q16 q17 q18 q19 : Int) (s : ByteArray) (g : Gly) (w : World)
    (H : ∀ w', Below w.heap.size w w' → Calls Try.prog 70 #[.agg #[.slice x n c, .slice y m d, .int .i64 q0, .int .i64 q1, .int .i64 q2, .int .i64 q3, .int .i64 q4, .int .i64 q5, .int .i64 q6, .int .i64 q7, .int .i64 q8, .int .i64 q9, .int .i64 q10, .int .i64 q11, .int .i64 q12, .int .i64 q13, .int .i64 q14, .int .i64 q15, .int .i64 q16, .int .i64 q17, .int .i64 q18, .int .i64 q19], .string s] w' (Gives (.tuple #[.agg #[.string g.name, .int .i64 g.w, .int .i64 g.h, .int .i64 g.d, .int .i64 g.it, .int .i64 g.at_], .bool true]) w')) :
    Calls Try.prog 49 #[.agg #[.slice x n c, .slice y m d, .int .i64 q0, .int .i64 q1, .int .i64 q2, .int .i64 q3, .int .i64 q4, .int .i64 q5, .int .i64 q6, .int .i64 q7, .int .i64 q8, .int .i64 q9, .int .i64 q10, .int .i64 q11, .int .i64 q12, .int .i64 q13, .int .i64 q14, .int .i64 q15, .int .i64 q16, .int .i64 q17, .int .i64 q18, .int .i64 q19], .string s] w (Gives (.agg #[.string g.name, .int .i64 g.w, .int .i64 g.h, .int .i64 g.d, .int .i64 g.it, .int .i64 g.at_]) w) := by
  have H1 := Lib.hid H
  clear H
  go_enter Try.func49, Try.ntmps49
  have hS := own_start w
  go_wp2_with (first | (refine own_unguard (by rfl) ?_) | (go_at_call 70; refine own_calls hS (H1.out _ hS.below) ?_; clear hS; (try clear ww); intro ww hS) | (refine w_ld rfl _ rfl (by rfl) (by first | exact rd_1 (by repeat constructor) (by first | rfl | assumption) | exact rd_w (by repeat constructor) (by rfl) | exact rd_o (by assumption) (by rfl) (by first | exact nmn | assumption | simp) | exact rd_h (by assumption) (by rfl) (by first | exact nmn | assumption | simp) | exact rd_1o (by assumption) (by first | exact nmn | assumption | simp) | exact rd_1h (by assumption) (by first | rfl | assumption) (by first | exact nmn | assumption | simp)) hS ?_) | (refine own_box rfl _ _ rfl (by rfl) hS ?_; clear hS; (try clear ww); intro bb ww hS) | (refine w_al rfl rfl hS ?_; clear hS; (try clear ww); intro bb ww hS) | (refine w_st rfl _ _ rfl (by rfl) (by rfl) (by repeat constructor) (by rfl) (by rfl) (by first | rfl | assumption) hS ?_; clear hS; (try clear ww); intro ww hS) | (refine w_s1 rfl _ _ rfl (by rfl) (by repeat constructor) (by first | exact .c | exact .t rfl) (by rfl) (by repeat constructor) hS ?_; clear hS; (try clear ww); intro ww hS))
  have hc := (hS.get at1).cell
  refine bodyPost_ret (v := .agg #[.string g.name, .int .i64 g.w, .int .i64 g.h, .int .i64 g.d, .int .i64 g.it, .int .i64 g.at_]) (by simp [results, Try.results49, go_sem, hc]) rfl (own_gives hS)

set_option maxHeartbeats 4000000 in
set_option maxRecDepth 100000 in
theorem ref05_Pick_two (x y : Option Addr) (n c m d : Nat) (q0 q1 q2 q3 q4 q5 q6 q7 q8 q9 q10 q11 q12 q13 q14 q15 q16 q17 q18 q19 : Int) (s : ByteArray) (g : Gly) (w : World)
    (H : ∀ w', Below w.heap.size w w' → Calls Try.prog 70 #[.agg #[.slice x n c, .slice y m d, .int .i64 q0, .int .i64 q1, .int .i64 q2, .int .i64 q3, .int .i64 q4, .int .i64 q5, .int .i64 q6, .int .i64 q7, .int .i64 q8, .int .i64 q9, .int .i64 q10, .int .i64 q11, .int .i64 q12, .int .i64 q13, .int .i64 q14, .int .i64 q15, .int .i64 q16, .int .i64 q17, .int .i64 q18, .int .i64 q19], .string s] w' (Gives (.tuple #[.agg #[.string ⟨#[]⟩, .int .i64 0, .int .i64 0, .int .i64 0, .int .i64 0, .int .i64 0], .bool false]) w'))
    (H' : ∀ w', Below w.heap.size w w' → Calls Try.prog 70 #[.agg #[.slice x n c, .slice y m d, .int .i64 q0, .int .i64 q1, .int .i64 q2, .int .i64 q3, .int .i64 q4, .int .i64 q5, .int .i64 q6, .int .i64 q7, .int .i64 q8, .int .i64 q9, .int .i64 q10, .int .i64 q11, .int .i64 q12, .int .i64 q13, .int .i64 q14, .int .i64 q15, .int .i64 q16, .int .i64 q17, .int .i64 q18, .int .i64 q19], .string ⟨#[63]⟩] w' (Gives (.tuple #[.agg #[.string g.name, .int .i64 g.w, .int .i64 g.h, .int .i64 g.d, .int .i64 g.it, .int .i64 g.at_], .bool true]) w')) :
    Calls Try.prog 49 #[.agg #[.slice x n c, .slice y m d, .int .i64 q0, .int .i64 q1, .int .i64 q2, .int .i64 q3, .int .i64 q4, .int .i64 q5, .int .i64 q6, .int .i64 q7, .int .i64 q8, .int .i64 q9, .int .i64 q10, .int .i64 q11, .int .i64 q12, .int .i64 q13, .int .i64 q14, .int .i64 q15, .int .i64 q16, .int .i64 q17, .int .i64 q18, .int .i64 q19], .string s] w (Gives (.agg #[.string g.name, .int .i64 g.w, .int .i64 g.h, .int .i64 g.d, .int .i64 g.it, .int .i64 g.at_]) w) := by
  have H1 := Lib.hid H
  have H2 := Lib.hid H'
  clear H H'
  go_enter Try.func49, Try.ntmps49
  have hS := own_start w
  have tok1 : True := trivial
  go_wp2_with (first | (refine own_unguard (by rfl) ?_) | (go_at_call 70; have _t := tok1; refine own_calls hS (H1.out _ hS.below) ?_; clear hS tok1; (try clear ww); intro ww hS) | (go_at_call 70; refine own_calls hS (H2.out _ hS.below) ?_; clear hS; (try clear ww); intro ww hS) | (refine w_ld rfl _ rfl (by rfl) (by first | exact rd_1 (by repeat constructor) (by first | rfl | assumption) | exact rd_w (by repeat constructor) (by rfl) | exact rd_o (by assumption) (by rfl) (by first | exact nmn | assumption | simp) | exact rd_h (by assumption) (by rfl) (by first | exact nmn | assumption | simp) | exact rd_1o (by assumption) (by first | exact nmn | assumption | simp) | exact rd_1h (by assumption) (by first | rfl | assumption) (by first | exact nmn | assumption | simp)) hS ?_) | (refine own_box rfl _ _ rfl (by rfl) hS ?_; clear hS; (try clear ww); intro bb ww hS) | (refine w_al rfl rfl hS ?_; clear hS; (try clear ww); intro bb ww hS) | (refine w_st rfl _ _ rfl (by rfl) (by rfl) (by repeat constructor) (by rfl) (by rfl) (by first | rfl | assumption) hS ?_; clear hS; (try clear ww); intro ww hS) | (refine w_s1 rfl _ _ rfl (by rfl) (by repeat constructor) (by first | exact .c | exact .t rfl) (by rfl) (by repeat constructor) hS ?_; clear hS; (try clear ww); intro ww hS))
  have hc := (hS.get at2).cell
  refine bodyPost_ret (v := .agg #[.string g.name, .int .i64 g.w, .int .i64 g.h, .int .i64 g.d, .int .i64 g.it, .int .i64 g.at_]) (by simp [results, Try.results49, go_sem, hc]) rfl (own_gives hS)

set_option maxHeartbeats 4000000 in
set_option maxRecDepth 100000 in
theorem ref05_Pick_three (x y : Option Addr) (n c m d : Nat) (q0 q1 q2 q3 q4 q5 q6 q7 q8 q9 q10 q11 q12 q13 q14 q15 q16 q17 q18 q19 : Int) (s : ByteArray) (w : World)
    (H : ∀ w', Below w.heap.size w w' → Calls Try.prog 70 #[.agg #[.slice x n c, .slice y m d, .int .i64 q0, .int .i64 q1, .int .i64 q2, .int .i64 q3, .int .i64 q4, .int .i64 q5, .int .i64 q6, .int .i64 q7, .int .i64 q8, .int .i64 q9, .int .i64 q10, .int .i64 q11, .int .i64 q12, .int .i64 q13, .int .i64 q14, .int .i64 q15, .int .i64 q16, .int .i64 q17, .int .i64 q18, .int .i64 q19], .string s] w' (Gives (.tuple #[.agg #[.string ⟨#[]⟩, .int .i64 0, .int .i64 0, .int .i64 0, .int .i64 0, .int .i64 0], .bool false]) w'))
    (H' : ∀ w', Below w.heap.size w w' → Calls Try.prog 70 #[.agg #[.slice x n c, .slice y m d, .int .i64 q0, .int .i64 q1, .int .i64 q2, .int .i64 q3, .int .i64 q4, .int .i64 q5, .int .i64 q6, .int .i64 q7, .int .i64 q8, .int .i64 q9, .int .i64 q10, .int .i64 q11, .int .i64 q12, .int .i64 q13, .int .i64 q14, .int .i64 q15, .int .i64 q16, .int .i64 q17, .int .i64 q18, .int .i64 q19], .string ⟨#[63]⟩] w' (Gives (.tuple #[.agg #[.string ⟨#[]⟩, .int .i64 0, .int .i64 0, .int .i64 0, .int .i64 0, .int .i64 0], .bool false]) w')) :
    Calls Try.prog 49 #[.agg #[.slice x n c, .slice y m d, .int .i64 q0, .int .i64 q1, .int .i64 q2, .int .i64 q3, .int .i64 q4, .int .i64 q5, .int .i64 q6, .int .i64 q7, .int .i64 q8, .int .i64 q9, .int .i64 q10, .int .i64 q11, .int .i64 q12, .int .i64 q13, .int .i64 q14, .int .i64 q15, .int .i64 q16, .int .i64 q17, .int .i64 q18, .int .i64 q19], .string s] w (Gives (.agg #[.string s, .int .i64 0, .int .i64 0, .int .i64 0, .int .i64 0, .int .i64 0]) w) := by
  have H1 := Lib.hid H
  have H2 := Lib.hid H'
  clear H H'
  go_enter Try.func49, Try.ntmps49
  have hS := own_start w
  have tok1 : True := trivial
  go_wp2_with (first | (refine own_unguard (by rfl) ?_) | (go_at_call 70; have _t := tok1; refine own_calls hS (H1.out _ hS.below) ?_; clear hS tok1; (try clear ww); intro ww hS) | (go_at_call 70; refine own_calls hS (H2.out _ hS.below) ?_; clear hS; (try clear ww); intro ww hS) | (refine w_ld rfl _ rfl (by rfl) (by first | exact rd_1 (by repeat constructor) (by first | rfl | assumption) | exact rd_w (by repeat constructor) (by rfl) | exact rd_o (by assumption) (by rfl) (by first | exact nmn | assumption | simp) | exact rd_h (by assumption) (by rfl) (by first | exact nmn | assumption | simp) | exact rd_1o (by assumption) (by first | exact nmn | assumption | simp) | exact rd_1h (by assumption) (by first | rfl | assumption) (by first | exact nmn | assumption | simp)) hS ?_) | (refine own_box rfl _ _ rfl (by rfl) hS ?_; clear hS; (try clear ww); intro bb ww hS) | (refine w_al rfl rfl hS ?_; clear hS; (try clear ww); intro bb ww hS) | (refine w_st rfl _ _ rfl (by rfl) (by rfl) (by repeat constructor) (by rfl) (by rfl) (by first | rfl | assumption) hS ?_; clear hS; (try clear ww); intro ww hS) | (refine w_s1 rfl _ _ rfl (by rfl) (by repeat constructor) (by first | exact .c | exact .t rfl) (by rfl) (by repeat constructor) hS ?_; clear hS; (try clear ww); intro ww hS))
  have hc := (hS.get at2).cell
  refine bodyPost_ret (v := .agg #[.string s, .int .i64 0, .int .i64 0, .int .i64 0, .int .i64 0, .int .i64 0]) (by simp [results, Try.results49, go_sem, hc]) rfl (own_gives hS)

theorem ref05_Pick_calls (x y : Option Addr) (n c m d : Nat) (q0 q1 q2 q3 q4 q5 q6 q7 q8 q9 q10 q11 q12 q13 q14 q15 q16 q17 q18 q19 : Int) (gs : List Gly) (s : ByteArray) (w : World) (hn : gs.length ≤ 1000000) (h : GlysAt w (.slice x n c) gs) :
    Calls Try.prog 49 #[.agg #[.slice x n c, .slice y m d, .int .i64 q0, .int .i64 q1, .int .i64 q2, .int .i64 q3, .int .i64 q4, .int .i64 q5, .int .i64 q6, .int .i64 q7, .int .i64 q8, .int .i64 q9, .int .i64 q10, .int .i64 q11, .int .i64 q12, .int .i64 q13, .int .i64 q14, .int .i64 q15, .int .i64 q16, .int .i64 q17, .int .i64 q18, .int .i64 q19], .string s] w (Gives (.agg #[.string (pickG gs s).name, .int .i64 (pickG gs s).w, .int .i64 (pickG gs s).h, .int .i64 (pickG gs s).d, .int .i64 (pickG gs s).it, .int .i64 (pickG gs s).at_]) w) := by
  have HC := fun (w' : World) (s' : ByteArray) (hb : Below w.heap.size w w') => ref05_Find_calls (.slice x n c) (.slice y m d) (.int .i64 q0) (.int .i64 q1) (.int .i64 q2) (.int .i64 q3) (.int .i64 q4) (.int .i64 q5) (.int .i64 q6) (.int .i64 q7) (.int .i64 q8) (.int .i64 q9) (.int .i64 q10) (.int .i64 q11) (.int .i64 q12) (.int .i64 q13) (.int .i64 q14) (.int .i64 q15) (.int .i64 q16) (.int .i64 q17) (.int .i64 q18) (.int .i64 q19) gs s' w' hn (h.below hb)
  cases hf : findG gs s with
  | some g =>
    rw [pickG_one g hf]
    exact ref05_Pick_one x y n c m d q0 q1 q2 q3 q4 q5 q6 q7 q8 q9 q10 q11 q12 q13 q14 q15 q16 q17 q18 q19 s g w (fun w' hb => by have := HC w' s hb; rw [hf] at this; exact this)
  | none =>
    cases hq : findG gs ⟨#[63]⟩ with
    | some g =>
      rw [pickG_two g hf hq]
      exact ref05_Pick_two x y n c m d q0 q1 q2 q3 q4 q5 q6 q7 q8 q9 q10 q11 q12 q13 q14 q15 q16 q17 q18 q19 s g w (fun w' hb => by have := HC w' s hb; rw [hf] at this; exact this) (fun w' hb => by have := HC w' ⟨#[63]⟩ hb; rw [hq] at this; exact this)
    | none =>
      rw [pickG_three hf hq]
      exact ref05_Pick_three x y n c m d q0 q1 q2 q3 q4 q5 q6 q7 q8 q9 q10 q11 q12 q13 q14 q15 q16 q17 q18 q19 s w (fun w' hb => by have := HC w' s hb; rw [hf] at this; exact this) (fun w' hb => by have := HC w' ⟨#[63]⟩ hb; rw [hq] at this; exact this)

end Go.Proofs.Ytceigjonhabmmaa
namespace Go.Proofs.Ytceigjonhabmmaa
open Go.RowKit
section
variable {P : Program} {ops : Array Oper} {Q : Exit → Act → World → Prop} {rel : Nat → World → World → Prop} {D : List Nat} {W : World}

theorem mk_swap (m i k : Nat) (l : List Nat) : mk m (i :: k :: l) = mk m (k :: i :: l) := by
  by_cases h : i = k
  · subst h; rfl
  · show ((mk m l).setIfInBounds k true).setIfInBounds i true = ((mk m l).setIfInBounds i true).setIfInBounds k true
    exact Array.setIfInBounds_comm _ _ (fun e => h e.symm)

end
section
variable {P : Program} {l : List Oper} {Q : Exit → Act → World → Prop} {D : List Nat} {W w : World} {L : List (Nat × List Value)} {a : Act} {B : Nat} {mid hard : List Nat} {done : List Nat}

end
end Go.Proofs.Ytceigjonhabmmaa
namespace Go.Proofs.Ytceigjonhabmmaa
open Go.RowKit
section
variable {P : Program} {ops : Array Oper} {Q : Exit → Act → World → Prop} {rel : Nat → World → World → Prop} {D : List Nat} {W w : World} {L : List (Nat × List Value)} {a : Act} {done : List Nat}

theorem mk_perm {m : Nat} {l l' : List Nat} (h : l.Perm l') : mk m l = mk m l' := by
  induction h with
  | nil => rfl
  | cons x _ ih => show (mk m _).setIfInBounds x true = (mk m _).setIfInBounds x true; rw [ih]
  | swap x y l => exact mk_swap m y x l
  | trans _ _ ih1 ih2 => exact ih1.trans ih2
/-- Whatever of ks is left may come now, and nothing else. -/
def freesB (ops : Array Oper) : Nat → List Nat → List Nat → Bool
  | 0, _, _ => true
  | f + 1, done, ks => ks.isEmpty || ((Region.ready .any ops (mk ops.size done)).all ks.contains && !(Region.ready .any ops (mk ops.size done)).isEmpty && ks.all fun k => (Region.ready .any ops (mk ops.size done)).contains k && freesB ops f (k :: done) (ks.erase k))
/-- Operation k.1 makes a new variable, which it puts into slot k.2.1, and which holds k.2.2. -/
def FreeAl (P : Program) (ops : Array Oper) (k : Nat × Nat × List Value) : Prop := ∃ ok t, ops[k.1]? = some ok ∧ ok.guard = none ∧ ok.op = .alloc t ∧ ok.dst = some k.2.1 ∧ ZeroTy P t k.2.2
inductive FreesAl (P : Program) (ops : Array Oper) : List (Nat × Nat × List Value) → Prop
  | nil : FreesAl P ops []
  | cons {i d : Nat} {t : TypeId} {z : List Value} {ok : Oper} {ks : List (Nat × Nat × List Value)} : ops[i]? = some ok → ok.guard = none → ok.op = .alloc t → ok.dst = some d → ZeroTy P t z → FreesAl P ops ks → FreesAl P ops ((i, d, z) :: ks)
theorem FreesAl.at {ks : List (Nat × Nat × List Value)} (h : FreesAl P ops ks) : ∀ k ∈ ks, FreeAl P ops k := by
  induction h with
  | nil => intro k hk; cases hk
  | cons h1 h2 h3 h4 h5 _ ih =>
    intro k hk
    rcases List.mem_cons.1 hk with rfl | hk
    · exact ⟨_, _, h1, h2, h3, h4, h5⟩
    · exact ih k hk
/-- The frame, the new variables known: f tells their blocks. -/
def putF (f : Nat → Nat) (ks : List (Nat × Nat × List Value)) (a : Act) : Act := ks.foldr (fun k a => a.put (some k.2.1) (.pointer (some ⟨f k.1, 0, none⟩))) a
def ownF (f : Nat → Nat) (ks : List (Nat × Nat × List Value)) : List (Nat × List Value) := ks.map fun k => (f k.1, k.2.2)
theorem putF_cons (f : Nat → Nat) (k : Nat × Nat × List Value) (ks : List (Nat × Nat × List Value)) (a : Act) : putF f (k :: ks) a = (putF f ks a).put (some k.2.1) (.pointer (some ⟨f k.1, 0, none⟩)) := rfl
theorem ownF_cons (f : Nat → Nat) (k : Nat × Nat × List Value) (ks : List (Nat × Nat × List Value)) : ownF f (k :: ks) = (f k.1, k.2.2) :: ownF f ks := rfl
theorem putF_perm {f : Nat → Nat} {ks js : List (Nat × Nat × List Value)} (h : ks.Perm js) (hd : (ks.map (·.2.1)).Nodup) (a : Act) : putF f ks a = putF f js a := by
  refine List.Perm.foldr_eq' h (fun x hx y hy z => ?_) a
  by_cases he : x = y
  · subst he; rfl
  · refine Act.put_comm z _ _ fun d h1 h2 => he ?_
    injection h1 with h1
    injection h2 with h2
    obtain ⟨i, hi⟩ := List.mem_iff_getElem?.1 hx
    obtain ⟨j, hj⟩ := List.mem_iff_getElem?.1 hy
    have e1 : (ks.map (·.2.1))[i]? = some x.2.1 := by rw [List.getElem?_map, hi]; rfl
    have e2 : (ks.map (·.2.1))[j]? = some x.2.1 := by rw [List.getElem?_map, hj]; simp [h1, h2]
    obtain rfl := (List.getElem?_inj (List.getElem?_eq_some_iff.1 e1).1 hd).1 (e1.trans e2.symm)
    rw [hi] at hj
    exact Option.some.inj hj
theorem ownF_upd {f : Nat → Nat} {i b : Nat} {js : List (Nat × Nat × List Value)} (h : i ∉ js.map (·.1)) : ownF (fun x => if x = i then b else f x) js = ownF f js := by
  unfold ownF
  refine List.map_congr_left fun k hk => ?_
  have : k.1 ≠ i := fun e => h (e ▸ List.mem_map_of_mem hk)
  simp [this]
theorem putF_upd {f : Nat → Nat} {i b : Nat} {a : Act} : ∀ {js : List (Nat × Nat × List Value)}, i ∉ js.map (·.1) → putF (fun x => if x = i then b else f x) js a = putF f js a := by
  intro js
  induction js with
  | nil => intro _; rfl
  | cons k js ih =>
    intro h
    simp only [List.map_cons, List.mem_cons, not_or] at h
    have hk : k.1 ≠ i := fun e => h.1 e.symm
    rw [putF_cons, putF_cons, ih h.2]
    simp [hk]

theorem frees_go {n : Nat} {all : List (Nat × Nat × List Value)} (hal : ∀ k ∈ all, FreeAl P ops k) (hni : (all.map (·.1)).Nodup) (hnd : (all.map (·.2.1)).Nodup) (hrel : ∀ k ∈ all, ∀ w w', Below w.heap.size w w' → rel k.1 w w')
    (hfin : ∀ f w', Closed ops (mk ops.size (all.map (·.1) ++ done)) → Own D W (ownF f all ++ L) w' → wpK P ops Q rel n (mk ops.size (all.map (·.1) ++ done)) (putF f all a) w') :
    ∀ (len : Nat) (ks js : List (Nat × Nat × List Value)) (f : Nat → Nat) (w : World), ks.length = len → (js ++ ks).Perm all → freesB ops len (js.map (·.1) ++ done) (ks.map (·.1)) = true → Closed ops (mk ops.size (js.map (·.1) ++ done)) → Own D W (ownF f js ++ L) w →
      wpK P ops Q rel (n + len) (mk ops.size (js.map (·.1) ++ done)) (putF f js a) w := by
  intro len
  induction len with
  | zero =>
    intro ks js f w hl hp _ hcl hS
    obtain rfl : ks = [] := List.length_eq_zero_iff.1 hl
    rw [List.append_nil] at hp
    have hq : mk ops.size (js.map (·.1) ++ done) = mk ops.size (all.map (·.1) ++ done) := mk_perm ((hp.map _).append_right _)
    rw [hq, putF_perm hp ((hp.map _).nodup_iff.2 hnd)]
    exact hfin f w (hq ▸ hcl) (hS.perm ((hp.map _).append_right _))
  | succ len ih =>
    intro ks js f w hl hp hB hcl hS
    have hne : (ks.map (·.1)).isEmpty = false := by cases ks <;> simp_all
    simp only [freesB, hne, Bool.false_or, Bool.and_eq_true] at hB
    obtain ⟨⟨h1, h2⟩, h3⟩ := hB
    refine ⟨fun h0 => by rw [h0] at h2; simp at h2, fun i hi => ?_⟩
    have h4 := List.all_eq_true.1 h1 i hi
    obtain ⟨k, hk, rfl⟩ := List.mem_map.1 (by simpa using h4 : i ∈ ks.map (·.1))
    have h5 := List.all_eq_true.1 h3 k.1 (List.mem_map_of_mem hk)
    simp only [Bool.and_eq_true] at h5
    obtain ⟨s, t, rfl⟩ := List.append_of_mem hk
    have hka : k ∈ all := hp.subset (by simp)
    obtain ⟨ok, ty, e1, e2, e3, e4, Z⟩ := hal k hka
    have hnp : ((js ++ (s ++ k :: t)).map (·.1)).Nodup := (hp.map _).nodup_iff.2 hni
    have hp' : ((k :: js) ++ (s ++ t)).Perm (js ++ (s ++ k :: t)) := by
      rw [← List.append_assoc, ← List.append_assoc]
      exact (List.perm_middle (a := k) (l₁ := js ++ s) (l₂ := t)).symm
    have hnk : (((k :: js) ++ (s ++ t)).map (·.1)).Nodup := (hp'.map _).nodup_iff.2 hnp
    simp only [List.cons_append, List.map_cons, List.nodup_cons, List.map_append, List.mem_append, not_or] at hnk
    have hjs := hnk.1.1
    have hsn := hnk.1.2.1
    refine point_go k.1 e1 (own_alloc e2 ty e3 (own_start w) Z fun b w' h6 => ?_)
    unfold wpList
    refine ⟨rfl, hrel k hka _ _ h6.below, fun w'' hb => ?_⟩
    have h7 := ih (s ++ t) (k :: js) (fun x => if x = k.1 then b else f x) w'' (by simp at hl ⊢; omega) (hp'.trans hp) (by
      have h8 := h5.2
      rw [List.map_append, List.map_cons, List.erase_append_right _ hsn, List.erase_cons_head] at h8
      rw [List.map_append]
      exact h8) (hcl.set hi) (by
      rw [ownF_cons, ownF_upd hjs]
      simpa using (hS.join h6).step hb)
    have h9 : putF (fun x => if x = k.1 then b else f x) (k :: js) a = (putF f js a).put ok.dst (.pointer (some ⟨b, 0, none⟩)) := by
      rw [putF_cons, putF_upd hjs, e4]
      simp
    rw [h9] at h7
    exact h7
end
section
variable {P : Program} {l : List Oper} {Q : Exit → Act → World → Prop} {D : List Nat} {W w : World} {L : List (Nat × List Value)} {a : Act} {B : Nat} {mid hard : List Nat} {done : List Nat}
/-- What is to be checked. -/
def freeB (ops : Array Oper) (soft : Nat → Bool) (done : List Nat) (ks : List (Nat × Nat)) : Bool := freesB ops ks.length done (ks.map (·.1)) && decide ((ks.map (·.1)).Nodup) && decide ((ks.map (·.2)).Nodup) && ks.all (fun k => soft k.1)
/-- New variables, made in any order; n operations remain behind. -/
theorem own_frees (hS : Own D W L w) (ks : List (Nat × Nat × List Value)) (n : Nat) {m : Nat} (hmn : n + ks.length = m) (hal : FreesAl P l.toArray ks) (hcl : Closed l.toArray (mk l.toArray.size done))
    (hB : freeB l.toArray (fun i => !hard.contains i && !mid.contains i) done (ks.map fun k => (k.1, k.2.1)) = true)
    (h : ∀ f w', Closed l.toArray (mk l.toArray.size (ks.map (·.1) ++ done)) → Own D W (ownF f ks ++ L) w' → wpK P l.toArray Q (relOf B mid hard) n (mk l.toArray.size (ks.map (·.1) ++ done)) (putF f ks a) w') :
    wpK P l.toArray Q (relOf B mid hard) m (mk l.toArray.size done) a w := by
  subst hmn
  simp only [freeB, Bool.and_eq_true, decide_eq_true_eq, List.map_map, List.length_map] at hB
  obtain ⟨⟨⟨h1, h2⟩, h3⟩, h4⟩ := hB
  refine frees_go (P := P) (Q := Q) (D := D) (W := W) (L := L) (a := a) hal.at h2 h3 (fun k hk w w' hb => ?_) (fun f w' hc hO => h f w' hc hO) ks.length ks [] (fun _ => 0) w rfl (List.Perm.refl _) h1 hcl hS
  rw [relOf_soft (List.all_eq_true.1 h4 (k.1, k.2.1) (List.mem_map_of_mem (f := fun k : Nat × Nat × List Value => (k.1, k.2.1)) hk))]
  exact hb
end
end Go.Proofs.Ytceigjonhabmmaa
namespace Go.Proofs.Ytceigjonhabmmaa
open Go.RowKit

attribute [local irreducible] wpQuiet wpG wpP wpK wpList Code.wp Calls

theorem font_pick34 (F : Fnt) (s : ByteArray) (w : World) (h : FntOk w F) (hn : F.gs.length ≤ 500) : Calls Try.prog 60 #[F.val, .string s] w (Gives (.agg #[.string (pickG F.gs s).name, .int .i64 (pickG F.gs s).w, .int .i64 (pickG F.gs s).h, .int .i64 (pickG F.gs s).d, .int .i64 (pickG F.gs s).it, .int .i64 (pickG F.gs s).at_]) w) :=
  font_Pick_calls F.gx F.sx F.gs.length F.gc F.ss.length F.sc F.quad F.xheight F.axis F.rule F.num1 F.num2 F.den1 F.den2 F.sup1 F.sup2 F.sup3 F.sub1 F.sub2 F.supdrop F.subdrop F.script F.sscript F.dpercent F.dshort F.acc F.gs s w (by omega) h.glysAt











end Go.Proofs.Ytceigjonhabmmaa
namespace Go.Proofs.Ytceigjonhabmmaa
open Go.RowKit

attribute [local irreducible] wpQuiet wpG wpP wpK wpList Code.wp Calls

/-- The cells of a box that stands alone, and those of its first kid. -/
theorem rep_kid {w : World} {n : Nat} {a : Hd} {kid : Bx n} {cs : List Value} (h : Rep w (n + 1) (a, [kid]) cs) : ∃ k o kc sx sc css, cs = a.cells (.slice (some ⟨k, o, none⟩) 1 kc) (.slice sx a.src.length sc) ∧ w.rangeAt k o css ∧ Rep w n kid css := by
  obtain ⟨kx, kc, sx, sc, rfl, _, _, _, hk⟩ := rep_out h
  obtain ⟨k, o, css, rfl, hr, hp⟩ := hk 0 kid rfl
  rw [Nat.zero_mul, Nat.add_zero] at hr
  exact ⟨k, o, kc, sx, sc, css, rfl, hr, hp⟩
/-- What Simple returns of cells: the glyph's cells and true, or none. -/
def SimpleV (w : World) (r : Option (Σ m, Bx (m + 1))) (v : Value) : Prop :=
  match r with
  | none => v = .tuple #[.agg #[.int .i64 0, .string ⟨#[]⟩, .int .i64 0, .int .i64 0, .int .i64 0, .int .i64 0, .int .i64 0, .int .i64 0, .slice none 0 0, .int .i64 0, .slice none 0 0], .bool false]
  | some g => ∃ cs, v = .tuple #[.agg cs.toArray, .bool true] ∧ Rep w (g.1 + 1) g.2 cs

set_option maxHeartbeats 8000000 in
set_option maxRecDepth 100000 in
theorem ref34_Simple_step (n : Nat) (ih : ∀ (b : Bx n) (cs : List Value) (w : World), Rep w n b cs → ∃ v, SimpleV w (innerS n b) v ∧ ∀ w', Below w.heap.size w w' → Calls Try.prog 47 #[.agg cs.toArray] w' (Gives v w'))
    (b : Bx (n + 1)) (cs : List Value) (w : World) (hr : Rep w (n + 1) b cs) : ∃ v, SimpleV w (innerS (n + 1) b) v ∧ ∀ w', Below w.heap.size w w' → Calls Try.prog 47 #[.agg cs.toArray] w' (Gives v w') := by
  obtain ⟨⟨kind, name, size, bw, bh, bd, bx, by_, of, src⟩, kids⟩ := b
  by_cases h1 : kind = 1
  · subst h1
    rw [inner_glyph rfl]
    obtain ⟨kx, kc, sx, sc, e, _⟩ := rep_out hr
    refine ⟨_, ⟨cs, rfl, hr⟩, fun w' hb => ?_⟩
    subst e
    clear hr ih hb
    go_enter Try.func47, Try.ntmps47
    have hS := own_start w'
    go_wp2_with (first | (refine own_unguard (by rfl) ?_) | (refine w_ld rfl _ rfl (by rfl) (by first | exact rd_1 (by repeat constructor) (by first | rfl | assumption) | exact rd_w (by repeat constructor) (by rfl) | exact rd_o (by assumption) (by rfl) (by first | exact nmn | assumption | simp) | exact rd_h (by assumption) (by rfl) (by first | exact nmn | assumption | simp) | exact rd_1o (by assumption) (by first | exact nmn | assumption | simp) | exact rd_1h (by assumption) (by first | rfl | assumption) (by first | exact nmn | assumption | simp)) hS ?_) | (refine own_box rfl _ _ rfl (by rfl) hS ?_; clear hS; (try clear ww); intro bb ww hS) | (refine w_al rfl rfl hS ?_; clear hS; (try clear ww); intro bb ww hS) | (refine w_st rfl _ _ rfl (by rfl) (by rfl) (by repeat constructor) (by rfl) (by rfl) (by first | rfl | assumption) hS ?_; clear hS; (try clear ww); intro ww hS) | (refine w_s1 rfl _ _ rfl (by rfl) (by repeat constructor) (by first | exact .c | exact .t rfl) (by rfl) (by repeat constructor) hS ?_; clear hS; (try clear ww); intro ww hS))
    have hc := (hS.get at0).cell
    refine bodyPost_ret (v := .tuple #[.agg #[.int .i64 1, .string name, .int .i64 size, .int .i64 bw, .int .i64 bh, .int .i64 bd, .int .i64 bx, .int .i64 by_, .slice kx kids.length kc, .int .i64 of, .slice sx src.length sc], .bool true]) (by simp [results, Try.results47, go_sem, hc]) rfl ⟨rfl, hS.below⟩
  · have d1 : decide (kind = 1) = false := decide_eq_false h1
    by_cases h3 : kind = 3
    · subst h3
      by_cases hl : kids.length = 1
      · obtain ⟨kid, rfl⟩ := List.length_eq_one_iff.1 hl
        obtain ⟨k, o, kc, sx, sc, css, rfl, hk, hp⟩ := rep_kid hr
        cases n with
        | zero => exact kid.elim
        | succ n =>
          obtain ⟨v, hv, hc⟩ := ih kid css w hp
          obtain ⟨⟨kind2, name2, size2, bw2, bh2, bd2, x2, y2, of2, src2⟩, kids2⟩ := kid
          obtain ⟨_, _, _, _, rfl, _⟩ := rep_out hp
          rename_i kx2 kc2 sx2 sc2
          by_cases hx : x2 = 0
          · subst hx
            by_cases hy : y2 = 0
            · subst hy
              rw [inner_down rfl (by simp [atO])]
              refine ⟨v, hv, fun w' hb => ?_⟩
              have hk := rangeAt_below hk hb
              have e6 : w'.cell? ⟨k, o + 6, none⟩ = some (.int .i64 0) := hk 6 _ rfl
              have e7 : w'.cell? ⟨k, o + 7, none⟩ = some (.int .i64 0) := hk 7 _ rfl
              have HC := Lib.hid (fun w2 (h2 : Below w'.heap.size w' w2) => hc w2 (bthen hb h2))
              cases hq : innerS (n + 1) (⟨kind2, name2, size2, bw2, bh2, bd2, 0, 0, of2, src2⟩, kids2) with
              | none =>
                rw [hq] at hv
                obtain rfl : v = _ := hv
                clear ih hr hp hb hc hq h1 hl
                go_enter Try.func47, Try.ntmps47
                have hS := own_start w'
                go_wp2_with (first | (refine own_unguard (by rfl) ?_) | (go_at_call 47; refine own_calls hS (HC.out _ hS.below) ?_; clear hS; (try clear ww); intro ww hS) | (refine w_ld rfl _ rfl (by rfl) (by first | exact rd_1 (by repeat constructor) (by first | rfl | assumption) | exact rd_w (by repeat constructor) (by rfl) | exact rd_o (by assumption) (by rfl) (by first | exact nmn | assumption | simp) | exact rd_h (by assumption) (by rfl) (by first | exact nmn | assumption | simp) | exact rd_1o (by assumption) (by first | exact nmn | assumption | simp) | exact rd_1h (by assumption) (by first | rfl | assumption) (by first | exact nmn | assumption | simp)) hS ?_) | (refine own_box rfl _ _ rfl (by rfl) hS ?_; clear hS; (try clear ww); intro bb ww hS) | (refine w_al rfl rfl hS ?_; clear hS; (try clear ww); intro bb ww hS) | (refine w_st rfl _ _ rfl (by rfl) (by rfl) (by repeat constructor) (by rfl) (by rfl) (by first | rfl | assumption) hS ?_; clear hS; (try clear ww); intro ww hS) | (refine w_s1 rfl _ _ rfl (by rfl) (by repeat constructor) (by first | exact .c | exact .t rfl) (by rfl) (by repeat constructor) hS ?_; clear hS; (try clear ww); intro ww hS))
                have hc := (hS.get at0).cell
                refine bodyPost_ret (v := .tuple #[.agg #[.int .i64 0, .string ⟨#[]⟩, .int .i64 0, .int .i64 0, .int .i64 0, .int .i64 0, .int .i64 0, .int .i64 0, .slice none 0 0, .int .i64 0, .slice none 0 0], .bool false]) (by simp [results, Try.results47, go_sem, hc]) rfl ⟨rfl, hS.below⟩
              | some g =>
                rw [hq] at hv
                obtain ⟨cg, rfl, hg⟩ := hv
                have hall := rep_all hg
                obtain ⟨e0, e1, e2, e3, e4, e5, e8, e9, f0, f1, f2, rfl⟩ := eleven hg.len
                clear ih hr hp hb hc hq h1 hl hg
                go_enter Try.func47, Try.ntmps47
                have hS := own_start w'
                go_wp2_with (first | (refine own_unguard (by rfl) ?_) | (go_at_call 47; refine own_calls hS (HC.out _ hS.below) ?_; clear hS; (try clear ww); intro ww hS) | (refine w_ld rfl _ rfl (by rfl) (by first | exact rd_1 (by repeat constructor) (by first | rfl | assumption) | exact rd_w (by repeat constructor) (by rfl) | exact rd_o (by assumption) (by rfl) (by first | exact nmn | assumption | simp) | exact rd_h (by assumption) (by rfl) (by first | exact nmn | assumption | simp) | exact rd_1o (by assumption) (by first | exact nmn | assumption | simp) | exact rd_1h (by assumption) (by first | rfl | assumption) (by first | exact nmn | assumption | simp)) hS ?_) | (refine own_box rfl _ _ rfl (by rfl) hS ?_; clear hS; (try clear ww); intro bb ww hS) | (refine w_al rfl rfl hS ?_; clear hS; (try clear ww); intro bb ww hS) | (refine w_st rfl _ _ rfl (by rfl) (by rfl) (by repeat constructor) (by rfl) (by rfl) (by first | rfl | assumption) hS ?_; clear hS; (try clear ww); intro ww hS) | (refine w_s1 rfl _ _ rfl (by rfl) (by repeat constructor) (by first | exact .c | exact .t rfl) (by rfl) (by repeat constructor) hS ?_; clear hS; (try clear ww); intro ww hS))
                have hc := (hS.get at0).cell
                refine bodyPost_ret (v := .tuple #[.agg #[e0, e1, e2, e3, e4, e5, e8, e9, f0, f1, f2], .bool true]) (by simp [results, Try.results47, go_sem, hc]) rfl ⟨rfl, hS.below⟩
            · rw [inner_off (show (3 : Int) ≠ 1 by decide) (by simp [atO, hy])]
              refine ⟨_, rfl, fun w' hb => ?_⟩
              have dy : decide (y2 = 0) = false := decide_eq_false hy
              have hk := rangeAt_below hk hb
              have e6 : w'.cell? ⟨k, o + 6, none⟩ = some (.int .i64 0) := hk 6 _ rfl
              have e7 : w'.cell? ⟨k, o + 7, none⟩ = some (.int .i64 y2) := hk 7 _ rfl
              clear ih hr hp hc hb hk
              go_enter Try.func47, Try.ntmps47
              have hS := own_start w'
              go_wp2_with (first | (refine own_unguard (by rfl) ?_) | (refine w_ld rfl _ rfl (by rfl) (by first | exact rd_1 (by repeat constructor) (by first | rfl | assumption) | exact rd_w (by repeat constructor) (by rfl) | exact rd_o (by assumption) (by rfl) (by first | exact nmn | assumption | simp) | exact rd_h (by assumption) (by rfl) (by first | exact nmn | assumption | simp) | exact rd_1o (by assumption) (by first | exact nmn | assumption | simp) | exact rd_1h (by assumption) (by first | rfl | assumption) (by first | exact nmn | assumption | simp)) hS ?_) | (refine own_box rfl _ _ rfl (by rfl) hS ?_; clear hS; (try clear ww); intro bb ww hS) | (refine w_al rfl rfl hS ?_; clear hS; (try clear ww); intro bb ww hS) | (refine w_st rfl _ _ rfl (by rfl) (by rfl) (by repeat constructor) (by rfl) (by rfl) (by first | rfl | assumption) hS ?_; clear hS; (try clear ww); intro ww hS) | (refine w_s1 rfl _ _ rfl (by rfl) (by repeat constructor) (by first | exact .c | exact .t rfl) (by rfl) (by repeat constructor) hS ?_; clear hS; (try clear ww); intro ww hS))
              have hc := (hS.get at0).cell
              refine bodyPost_ret (v := .tuple #[.agg #[.int .i64 0, .string ⟨#[]⟩, .int .i64 0, .int .i64 0, .int .i64 0, .int .i64 0, .int .i64 0, .int .i64 0, .slice none 0 0, .int .i64 0, .slice none 0 0], .bool false]) (by simp [results, Try.results47, go_sem, hc]) rfl ⟨rfl, hS.below⟩
          · rw [inner_off (show (3 : Int) ≠ 1 by decide) (by simp [atO, hx])]
            refine ⟨_, rfl, fun w' hb => ?_⟩
            have dx : decide (x2 = 0) = false := decide_eq_false hx
            have hk := rangeAt_below hk hb
            have e6 : w'.cell? ⟨k, o + 6, none⟩ = some (.int .i64 x2) := hk 6 _ rfl
            clear ih hr hp hc hb hk
            go_enter Try.func47, Try.ntmps47
            have hS := own_start w'
            go_wp2_with (first | (refine own_unguard (by rfl) ?_) | (refine w_ld rfl _ rfl (by rfl) (by first | exact rd_1 (by repeat constructor) (by first | rfl | assumption) | exact rd_w (by repeat constructor) (by rfl) | exact rd_o (by assumption) (by rfl) (by first | exact nmn | assumption | simp) | exact rd_h (by assumption) (by rfl) (by first | exact nmn | assumption | simp) | exact rd_1o (by assumption) (by first | exact nmn | assumption | simp) | exact rd_1h (by assumption) (by first | rfl | assumption) (by first | exact nmn | assumption | simp)) hS ?_) | (refine own_box rfl _ _ rfl (by rfl) hS ?_; clear hS; (try clear ww); intro bb ww hS) | (refine w_al rfl rfl hS ?_; clear hS; (try clear ww); intro bb ww hS) | (refine w_st rfl _ _ rfl (by rfl) (by rfl) (by repeat constructor) (by rfl) (by rfl) (by first | rfl | assumption) hS ?_; clear hS; (try clear ww); intro ww hS) | (refine w_s1 rfl _ _ rfl (by rfl) (by repeat constructor) (by first | exact .c | exact .t rfl) (by rfl) (by repeat constructor) hS ?_; clear hS; (try clear ww); intro ww hS))
            have hc := (hS.get at0).cell
            refine bodyPost_ret (v := .tuple #[.agg #[.int .i64 0, .string ⟨#[]⟩, .int .i64 0, .int .i64 0, .int .i64 0, .int .i64 0, .int .i64 0, .int .i64 0, .slice none 0 0, .int .i64 0, .slice none 0 0], .bool false]) (by simp [results, Try.results47, go_sem, hc]) rfl ⟨rfl, hS.below⟩
      · rw [inner_len (show (3 : Int) ≠ 1 by decide) hl]
        obtain ⟨kx, kc, sx, sc, rfl, _⟩ := rep_out hr
        refine ⟨_, rfl, fun w' hb => ?_⟩
        have dl : decide ((kids.length : Int) = 1) = false := decide_eq_false (by omega)
        clear ih hr hb
        go_enter Try.func47, Try.ntmps47
        have hS := own_start w'
        go_wp2_with (first | (refine own_unguard (by rfl) ?_) | (refine w_ld rfl _ rfl (by rfl) (by first | exact rd_1 (by repeat constructor) (by first | rfl | assumption) | exact rd_w (by repeat constructor) (by rfl) | exact rd_o (by assumption) (by rfl) (by first | exact nmn | assumption | simp) | exact rd_h (by assumption) (by rfl) (by first | exact nmn | assumption | simp) | exact rd_1o (by assumption) (by first | exact nmn | assumption | simp) | exact rd_1h (by assumption) (by first | rfl | assumption) (by first | exact nmn | assumption | simp)) hS ?_) | (refine own_box rfl _ _ rfl (by rfl) hS ?_; clear hS; (try clear ww); intro bb ww hS) | (refine w_al rfl rfl hS ?_; clear hS; (try clear ww); intro bb ww hS) | (refine w_st rfl _ _ rfl (by rfl) (by rfl) (by repeat constructor) (by rfl) (by rfl) (by first | rfl | assumption) hS ?_; clear hS; (try clear ww); intro ww hS) | (refine w_s1 rfl _ _ rfl (by rfl) (by repeat constructor) (by first | exact .c | exact .t rfl) (by rfl) (by repeat constructor) hS ?_; clear hS; (try clear ww); intro ww hS))
        have hc := (hS.get at0).cell
        refine bodyPost_ret (v := .tuple #[.agg #[.int .i64 0, .string ⟨#[]⟩, .int .i64 0, .int .i64 0, .int .i64 0, .int .i64 0, .int .i64 0, .int .i64 0, .slice none 0 0, .int .i64 0, .slice none 0 0], .bool false]) (by simp [results, Try.results47, go_sem, hc]) rfl ⟨rfl, hS.below⟩
    · rw [inner_kind h1 h3]
      obtain ⟨kx, kc, sx, sc, rfl, _⟩ := rep_out hr
      refine ⟨_, rfl, fun w' hb => ?_⟩
      have d3 : decide (kind = 3) = false := decide_eq_false h3
      clear ih hr hb
      go_enter Try.func47, Try.ntmps47
      have hS := own_start w'
      go_wp2_with (first | (refine own_unguard (by rfl) ?_) | (refine w_ld rfl _ rfl (by rfl) (by first | exact rd_1 (by repeat constructor) (by first | rfl | assumption) | exact rd_w (by repeat constructor) (by rfl) | exact rd_o (by assumption) (by rfl) (by first | exact nmn | assumption | simp) | exact rd_h (by assumption) (by rfl) (by first | exact nmn | assumption | simp) | exact rd_1o (by assumption) (by first | exact nmn | assumption | simp) | exact rd_1h (by assumption) (by first | rfl | assumption) (by first | exact nmn | assumption | simp)) hS ?_) | (refine own_box rfl _ _ rfl (by rfl) hS ?_; clear hS; (try clear ww); intro bb ww hS) | (refine w_al rfl rfl hS ?_; clear hS; (try clear ww); intro bb ww hS) | (refine w_st rfl _ _ rfl (by rfl) (by rfl) (by repeat constructor) (by rfl) (by rfl) (by first | rfl | assumption) hS ?_; clear hS; (try clear ww); intro ww hS) | (refine w_s1 rfl _ _ rfl (by rfl) (by repeat constructor) (by first | exact .c | exact .t rfl) (by rfl) (by repeat constructor) hS ?_; clear hS; (try clear ww); intro ww hS))
      have hc := (hS.get at0).cell
      refine bodyPost_ret (v := .tuple #[.agg #[.int .i64 0, .string ⟨#[]⟩, .int .i64 0, .int .i64 0, .int .i64 0, .int .i64 0, .int .i64 0, .int .i64 0, .slice none 0 0, .int .i64 0, .slice none 0 0], .bool false]) (by simp [results, Try.results47, go_sem, hc]) rfl ⟨rfl, hS.below⟩

theorem ref34_Simple_calls : ∀ (n : Nat) (b : Bx n) (cs : List Value) (w : World), Rep w n b cs → ∃ v, SimpleV w (innerS n b) v ∧ ∀ w', Below w.heap.size w w' → Calls Try.prog 47 #[.agg cs.toArray] w' (Gives v w')
  | 0, _, _, _, h => h.elim
  | n + 1, b, cs, w, h => ref34_Simple_step n (ref34_Simple_calls n) b cs w h

end Go.Proofs.Ytceigjonhabmmaa
namespace Go.Proofs.Ytceigjonhabmmaa
open Go.RowKit

attribute [local irreducible] wpQuiet wpG wpP wpK wpList Code.wp Calls

theorem inner_own : ∀ (n : Nat) (b : Bx n) (m : Nat) (g : Bx (m + 1)), innerS n b = some ⟨m, g⟩ → allOwn n b = true → g.1.kind = 1 ∧ allOwn (m + 1) g = true := by
  intro n
  induction n with
  | zero => intro b; exact b.elim
  | succ n ih =>
    rintro ⟨a, ks⟩ m g h ho
    by_cases h1 : a.kind = 1
    · rw [inner_glyph h1] at h
      cases h
      exact ⟨h1, ho⟩
    · by_cases h3 : a.kind = 3
      · by_cases hl : ks.length = 1
        · obtain ⟨k, rfl⟩ := List.length_eq_one_iff.1 hl
          cases ha : atO n k
          · rw [inner_off h1 ha] at h; cases h
          · rw [inner_down h3 ha] at h
            simp only [allOwn, Bool.and_eq_true, List.all_cons, List.all_nil] at ho
            exact ih k m g h ho.2.1
        · rw [inner_len h1 hl] at h; cases h
      · rw [inner_kind h1 h3] at h; cases h
/-- The glyph of a valid box has a size. -/
theorem inner_size {n : Nat} {b : Bx n} {m : Nat} {g : Bx (m + 1)} (h : innerS n b = some ⟨m, g⟩) (hv : validB n b) : 1 ≤ g.1.size ∧ g.1.size ≤ 1000 := by
  obtain ⟨hk, ho⟩ := inner_own n b m g h hv.1
  simp only [allOwn, ownOk, Bool.and_eq_true] at ho
  have h1 := ho.1.1.2
  rw [kind_1 hk] at h1
  simp only [Bool.and_eq_true, decide_eq_true_eq] at h1
  exact h1.1.2
theorem pick_metrics {F : Fnt} (hv : ValidF F) (s : ByteArray) : metricsOk (pickG F.gs s) = true := by
  have key : ∀ t g, findG F.gs t = some g → metricsOk g = true := fun t g h => by
    obtain ⟨k, hk⟩ := List.mem_iff_getElem?.1 (List.mem_of_find?_eq_some h)
    have := (hv.2.2.2.1 k g hk).1
    simp [gIn] at this
    exact this.1.2
  unfold pickG
  split
  · exact key _ _ (by assumption)
  · split
    · exact key _ _ (by assumption)
    · rfl
theorem ref05_pick34 (F : Fnt) (s : ByteArray) (w : World) (h : FntOk w F) (hn : F.gs.length ≤ 500) : Calls Try.prog 49 #[F.val, .string s] w (Gives (.agg #[.string (pickG F.gs s).name, .int .i64 (pickG F.gs s).w, .int .i64 (pickG F.gs s).h, .int .i64 (pickG F.gs s).d, .int .i64 (pickG F.gs s).it, .int .i64 (pickG F.gs s).at_]) w) :=
  ref05_Pick_calls F.gx F.sx F.gs.length F.gc F.ss.length F.sc F.quad F.xheight F.axis F.rule F.num1 F.num2 F.den1 F.den2 F.sup1 F.sup2 F.sup3 F.sub1 F.sub2 F.supdrop F.subdrop F.script F.sscript F.dpercent F.dshort F.acc F.gs s w (by omega) h.glysAt





end Go.Proofs.Ytceigjonhabmmaa
