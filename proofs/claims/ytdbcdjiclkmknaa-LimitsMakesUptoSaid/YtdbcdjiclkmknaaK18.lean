/- Texts Pick, Ita. -/
import Derived.Test.YtdbcdjiclkmknaaK01
import Derived.Test.YtdbcdjiclkmknaaK17
import Derived.Test.YtdbcdjiclkmknaaK07
import Derived.Test.YtdbcdjiclkmknaaK02
import Derived.Test.YtdbcdjiclkmknaaK03
import Derived.Test.YtdbcdjiclkmknaaK14
import Derived.Test.YtdbcdjiclkmknaaK15
namespace Go.Proofs.Ytdbcdjiclkmknaa
open Go.RowKit

attribute [local irreducible] wpQuiet wpList Code.wp

theorem GlysAt.below {w w' : World} {v : Value} {gs : List Gly} (h : GlysAt w v gs) (hb : Below w.heap.size w w') : GlysAt w' v gs := by
  rcases h with h | ⟨b, o, c, rfl, h⟩
  · exact .inl h
  · refine .inr ⟨b, o, c, rfl, fun i g hi => ?_⟩
    obtain ⟨h0, h1, h2, h3, h4, h5⟩ := h i g hi
    have hl : b < w.heap.size := World.block_lt_of_cell? w _ h0
    exact ⟨(hb.cell hl).trans h0, (hb.cell hl).trans h1, (hb.cell hl).trans h2, (hb.cell hl).trans h3, (hb.cell hl).trans h4, (hb.cell hl).trans h5⟩

/-- What Pick returns. -/
def pickG (gs : List Gly) (s : ByteArray) : Gly :=
  match findG gs s with
  | some g => g
  | none => match findG gs ⟨#[63]⟩ with
    | some g => g
    | none => { name := s, w := 0, h := 0, d := 0, it := 0, at_ := 0 }

theorem pickG_one {gs : List Gly} {s : ByteArray} (g : Gly) (h : findG gs s = some g) : pickG gs s = g := by unfold pickG; rw [h]
theorem pickG_two {gs : List Gly} {s : ByteArray} (g : Gly) (h : findG gs s = none) (h2 : findG gs ⟨#[63]⟩ = some g) : pickG gs s = g := by unfold pickG; rw [h]; simp only [h2]
theorem pickG_three {gs : List Gly} {s : ByteArray} (h : findG gs s = none) (h2 : findG gs ⟨#[63]⟩ = none) : pickG gs s = { name := s, w := 0, h := 0, d := 0, it := 0, at_ := 0 } := by unfold pickG; rw [h]; simp only [h2]

set_option maxHeartbeats 4000000 in
set_option maxRecDepth 100000 in
theorem font_Pick_one (x y : Option Addr) (n c m d : Nat) (q0 q1 q2 q3 q4 q5 q6 q7 q8 q9 q10 q11 q12 q13 q14 q15 q16 q17 q18 q19 : Int) (s : ByteArray) (g : Gly) (w : World)
    (H : ∀ w', Below w.heap.size w w' → Calls Try.prog 62 #[.agg #[.slice x n c, .slice y m d, .int .i64 q0, .int .i64 q1, .int .i64 q2, .int .i64 q3, .int .i64 q4, .int .i64 q5, .int .i64 q6, .int .i64 q7, .int .i64 q8, .int .i64 q9, .int .i64 q10, .int .i64 q11, .int .i64 q12, .int .i64 q13, .int .i64 q14, .int .i64 q15, .int .i64 q16, .int .i64 q17, .int .i64 q18, .int .i64 q19], .string s] w' (Gives (.tuple #[.agg #[.string g.name, .int .i64 g.w, .int .i64 g.h, .int .i64 g.d, .int .i64 g.it, .int .i64 g.at_], .bool true]) w')) :
    Calls Try.prog 45 #[.agg #[.slice x n c, .slice y m d, .int .i64 q0, .int .i64 q1, .int .i64 q2, .int .i64 q3, .int .i64 q4, .int .i64 q5, .int .i64 q6, .int .i64 q7, .int .i64 q8, .int .i64 q9, .int .i64 q10, .int .i64 q11, .int .i64 q12, .int .i64 q13, .int .i64 q14, .int .i64 q15, .int .i64 q16, .int .i64 q17, .int .i64 q18, .int .i64 q19], .string s] w (Gives (.agg #[.string g.name, .int .i64 g.w, .int .i64 g.h, .int .i64 g.d, .int .i64 g.it, .int .i64 g.at_]) w) := by
  have H1 := Lib.hid H
  clear H
  go_enter Try.func45, Try.ntmps45
  have hS := own_start w
  go_wp2_with (first|(refine own_unguard (by rfl) ?_)|(go_at_call 62;refine own_calls hS (H1.out _ hS.below) ?_;clear hS;(try clear ww);intro ww hS)|(refine w_ld rfl _ rfl (by rfl) (by first|exact rd_1 (by repeat constructor) (by first|rfl|assumption)|exact rd_w (by repeat constructor) (by rfl)|((first|refine rd_o ‹_› (by rfl) ?_|refine rd_h ‹_› (by rfl) ?_|refine rd_1o ‹_› ?_|refine rd_1h ‹_› (by first|rfl|assumption) ?_);first|exact nmn|assumption|simp)) hS ?_)|((first|refine own_box rfl _ _ rfl (by rfl) hS ?_|refine w_al rfl rfl hS ?_);clear hS;(try clear ww);intro bb ww hS)|((first|refine w_st rfl _ _ rfl (by rfl) (by rfl) (by repeat constructor) (by rfl) (by rfl) (by first|rfl|assumption) hS ?_|refine w_s1 rfl _ _ rfl (by rfl) (by repeat constructor) (by first|exact .c|exact .t rfl) (by rfl) (by repeat constructor) hS ?_);clear hS;(try clear ww);intro ww hS))
  have hc := (hS.get at1).cell
  refine bodyPost_ret (v := .agg #[.string g.name, .int .i64 g.w, .int .i64 g.h, .int .i64 g.d, .int .i64 g.it, .int .i64 g.at_]) (by simp [results, Try.results45, go_sem, hc]) rfl (own_gives hS)

set_option maxHeartbeats 4000000 in
set_option maxRecDepth 100000 in
theorem font_Pick_two (x y : Option Addr) (n c m d : Nat) (q0 q1 q2 q3 q4 q5 q6 q7 q8 q9 q10 q11 q12 q13 q14 q15 q16 q17 q18 q19 : Int) (s : ByteArray) (g : Gly) (w : World)
    (H : ∀ w', Below w.heap.size w w' → Calls Try.prog 62 #[.agg #[.slice x n c, .slice y m d, .int .i64 q0, .int .i64 q1, .int .i64 q2, .int .i64 q3, .int .i64 q4, .int .i64 q5, .int .i64 q6, .int .i64 q7, .int .i64 q8, .int .i64 q9, .int .i64 q10, .int .i64 q11, .int .i64 q12, .int .i64 q13, .int .i64 q14, .int .i64 q15, .int .i64 q16, .int .i64 q17, .int .i64 q18, .int .i64 q19], .string s] w' (Gives (.tuple #[.agg #[.string ⟨#[]⟩, .int .i64 0, .int .i64 0, .int .i64 0, .int .i64 0, .int .i64 0], .bool false]) w'))
    (H' : ∀ w', Below w.heap.size w w' → Calls Try.prog 62 #[.agg #[.slice x n c, .slice y m d, .int .i64 q0, .int .i64 q1, .int .i64 q2, .int .i64 q3, .int .i64 q4, .int .i64 q5, .int .i64 q6, .int .i64 q7, .int .i64 q8, .int .i64 q9, .int .i64 q10, .int .i64 q11, .int .i64 q12, .int .i64 q13, .int .i64 q14, .int .i64 q15, .int .i64 q16, .int .i64 q17, .int .i64 q18, .int .i64 q19], .string ⟨#[63]⟩] w' (Gives (.tuple #[.agg #[.string g.name, .int .i64 g.w, .int .i64 g.h, .int .i64 g.d, .int .i64 g.it, .int .i64 g.at_], .bool true]) w')) :
    Calls Try.prog 45 #[.agg #[.slice x n c, .slice y m d, .int .i64 q0, .int .i64 q1, .int .i64 q2, .int .i64 q3, .int .i64 q4, .int .i64 q5, .int .i64 q6, .int .i64 q7, .int .i64 q8, .int .i64 q9, .int .i64 q10, .int .i64 q11, .int .i64 q12, .int .i64 q13, .int .i64 q14, .int .i64 q15, .int .i64 q16, .int .i64 q17, .int .i64 q18, .int .i64 q19], .string s] w (Gives (.agg #[.string g.name, .int .i64 g.w, .int .i64 g.h, .int .i64 g.d, .int .i64 g.it, .int .i64 g.at_]) w) := by
  have H1 := Lib.hid H
  have H2 := Lib.hid H'
  clear H H'
  go_enter Try.func45, Try.ntmps45
  have hS := own_start w
  have tok1 : True := trivial
  go_wp2_with (first|(refine own_unguard (by rfl) ?_)|(go_at_call 62;have _t := tok1;refine own_calls hS (H1.out _ hS.below) ?_;clear hS tok1;(try clear ww);intro ww hS)|(go_at_call 62;refine own_calls hS (H2.out _ hS.below) ?_;clear hS;(try clear ww);intro ww hS)|(refine w_ld rfl _ rfl (by rfl) (by first|exact rd_1 (by repeat constructor) (by first|rfl|assumption)|exact rd_w (by repeat constructor) (by rfl)|((first|refine rd_o ‹_› (by rfl) ?_|refine rd_h ‹_› (by rfl) ?_|refine rd_1o ‹_› ?_|refine rd_1h ‹_› (by first|rfl|assumption) ?_);first|exact nmn|assumption|simp)) hS ?_)|((first|refine own_box rfl _ _ rfl (by rfl) hS ?_|refine w_al rfl rfl hS ?_);clear hS;(try clear ww);intro bb ww hS)|((first|refine w_st rfl _ _ rfl (by rfl) (by rfl) (by repeat constructor) (by rfl) (by rfl) (by first|rfl|assumption) hS ?_|refine w_s1 rfl _ _ rfl (by rfl) (by repeat constructor) (by first|exact .c|exact .t rfl) (by rfl) (by repeat constructor) hS ?_);clear hS;(try clear ww);intro ww hS))
  have hc := (hS.get at2).cell
  refine bodyPost_ret (v := .agg #[.string g.name, .int .i64 g.w, .int .i64 g.h, .int .i64 g.d, .int .i64 g.it, .int .i64 g.at_]) (by simp [results, Try.results45, go_sem, hc]) rfl (own_gives hS)

set_option maxHeartbeats 4000000 in
set_option maxRecDepth 100000 in
theorem font_Pick_three (x y : Option Addr) (n c m d : Nat) (q0 q1 q2 q3 q4 q5 q6 q7 q8 q9 q10 q11 q12 q13 q14 q15 q16 q17 q18 q19 : Int) (s : ByteArray) (w : World)
    (H : ∀ w', Below w.heap.size w w' → Calls Try.prog 62 #[.agg #[.slice x n c, .slice y m d, .int .i64 q0, .int .i64 q1, .int .i64 q2, .int .i64 q3, .int .i64 q4, .int .i64 q5, .int .i64 q6, .int .i64 q7, .int .i64 q8, .int .i64 q9, .int .i64 q10, .int .i64 q11, .int .i64 q12, .int .i64 q13, .int .i64 q14, .int .i64 q15, .int .i64 q16, .int .i64 q17, .int .i64 q18, .int .i64 q19], .string s] w' (Gives (.tuple #[.agg #[.string ⟨#[]⟩, .int .i64 0, .int .i64 0, .int .i64 0, .int .i64 0, .int .i64 0], .bool false]) w'))
    (H' : ∀ w', Below w.heap.size w w' → Calls Try.prog 62 #[.agg #[.slice x n c, .slice y m d, .int .i64 q0, .int .i64 q1, .int .i64 q2, .int .i64 q3, .int .i64 q4, .int .i64 q5, .int .i64 q6, .int .i64 q7, .int .i64 q8, .int .i64 q9, .int .i64 q10, .int .i64 q11, .int .i64 q12, .int .i64 q13, .int .i64 q14, .int .i64 q15, .int .i64 q16, .int .i64 q17, .int .i64 q18, .int .i64 q19], .string ⟨#[63]⟩] w' (Gives (.tuple #[.agg #[.string ⟨#[]⟩, .int .i64 0, .int .i64 0, .int .i64 0, .int .i64 0, .int .i64 0], .bool false]) w')) :
    Calls Try.prog 45 #[.agg #[.slice x n c, .slice y m d, .int .i64 q0, .int .i64 q1, .int .i64 q2, .int .i64 q3, .int .i64 q4, .int .i64 q5, .int .i64 q6, .int .i64 q7, .int .i64 q8, .int .i64 q9, .int .i64 q10, .int .i64 q11, .int .i64 q12, .int .i64 q13, .int .i64 q14, .int .i64 q15, .int .i64 q16, .int .i64 q17, .int .i64 q18, .int .i64 q19], .string s] w (Gives (.agg #[.string s, .int .i64 0, .int .i64 0, .int .i64 0, .int .i64 0, .int .i64 0]) w) := by
  have H1 := Lib.hid H
  have H2 := Lib.hid H'
  clear H H'
  go_enter Try.func45, Try.ntmps45
  have hS := own_start w
  have tok1 : True := trivial
  go_wp2_with (first|(refine own_unguard (by rfl) ?_)|(go_at_call 62;have _t := tok1;refine own_calls hS (H1.out _ hS.below) ?_;clear hS tok1;(try clear ww);intro ww hS)|(go_at_call 62;refine own_calls hS (H2.out _ hS.below) ?_;clear hS;(try clear ww);intro ww hS)|(refine w_ld rfl _ rfl (by rfl) (by first|exact rd_1 (by repeat constructor) (by first|rfl|assumption)|exact rd_w (by repeat constructor) (by rfl)|((first|refine rd_o ‹_› (by rfl) ?_|refine rd_h ‹_› (by rfl) ?_|refine rd_1o ‹_› ?_|refine rd_1h ‹_› (by first|rfl|assumption) ?_);first|exact nmn|assumption|simp)) hS ?_)|((first|refine own_box rfl _ _ rfl (by rfl) hS ?_|refine w_al rfl rfl hS ?_);clear hS;(try clear ww);intro bb ww hS)|((first|refine w_st rfl _ _ rfl (by rfl) (by rfl) (by repeat constructor) (by rfl) (by rfl) (by first|rfl|assumption) hS ?_|refine w_s1 rfl _ _ rfl (by rfl) (by repeat constructor) (by first|exact .c|exact .t rfl) (by rfl) (by repeat constructor) hS ?_);clear hS;(try clear ww);intro ww hS))
  have hc := (hS.get at2).cell
  refine bodyPost_ret (v := .agg #[.string s, .int .i64 0, .int .i64 0, .int .i64 0, .int .i64 0, .int .i64 0]) (by simp [results, Try.results45, go_sem, hc]) rfl (own_gives hS)

theorem font_Pick_calls (x y : Option Addr) (n c m d : Nat) (q0 q1 q2 q3 q4 q5 q6 q7 q8 q9 q10 q11 q12 q13 q14 q15 q16 q17 q18 q19 : Int) (gs : List Gly) (s : ByteArray) (w : World) (hn : gs.length ≤ 1000000) (h : GlysAt w (.slice x n c) gs) :
    Calls Try.prog 45 #[.agg #[.slice x n c, .slice y m d, .int .i64 q0, .int .i64 q1, .int .i64 q2, .int .i64 q3, .int .i64 q4, .int .i64 q5, .int .i64 q6, .int .i64 q7, .int .i64 q8, .int .i64 q9, .int .i64 q10, .int .i64 q11, .int .i64 q12, .int .i64 q13, .int .i64 q14, .int .i64 q15, .int .i64 q16, .int .i64 q17, .int .i64 q18, .int .i64 q19], .string s] w (Gives (.agg #[.string (pickG gs s).name, .int .i64 (pickG gs s).w, .int .i64 (pickG gs s).h, .int .i64 (pickG gs s).d, .int .i64 (pickG gs s).it, .int .i64 (pickG gs s).at_]) w) := by
  have HC := fun (w' : World) (s' : ByteArray) (hb : Below w.heap.size w w') => font_Find_calls (.slice x n c) (.slice y m d) (.int .i64 q0) (.int .i64 q1) (.int .i64 q2) (.int .i64 q3) (.int .i64 q4) (.int .i64 q5) (.int .i64 q6) (.int .i64 q7) (.int .i64 q8) (.int .i64 q9) (.int .i64 q10) (.int .i64 q11) (.int .i64 q12) (.int .i64 q13) (.int .i64 q14) (.int .i64 q15) (.int .i64 q16) (.int .i64 q17) (.int .i64 q18) (.int .i64 q19) gs s' w' hn (h.below hb)
  cases hf : findG gs s with
  | some g =>
    rw [pickG_one g hf]
    exact font_Pick_one x y n c m d q0 q1 q2 q3 q4 q5 q6 q7 q8 q9 q10 q11 q12 q13 q14 q15 q16 q17 q18 q19 s g w (fun w' hb => by have := HC w' s hb; rw [hf] at this; exact this)
  | none =>
    cases hq : findG gs ⟨#[63]⟩ with
    | some g =>
      rw [pickG_two g hf hq]
      exact font_Pick_two x y n c m d q0 q1 q2 q3 q4 q5 q6 q7 q8 q9 q10 q11 q12 q13 q14 q15 q16 q17 q18 q19 s g w (fun w' hb => by have := HC w' s hb; rw [hf] at this; exact this) (fun w' hb => by have := HC w' ⟨#[63]⟩ hb; rw [hq] at this; exact this)
    | none =>
      rw [pickG_three hf hq]
      exact font_Pick_three x y n c m d q0 q1 q2 q3 q4 q5 q6 q7 q8 q9 q10 q11 q12 q13 q14 q15 q16 q17 q18 q19 s w (fun w' hb => by have := HC w' s hb; rw [hf] at this; exact this) (fun w' hb => by have := HC w' ⟨#[63]⟩ hb; rw [hq] at this; exact this)

set_option maxHeartbeats 4000000 in
set_option maxRecDepth 100000 in
theorem ref05_Pick_one (x y : Option Addr) (n c m d : Nat) (q0 q1 q2 q3 q4 q5 q6 q7 q8 q9 q10 q11 q12 q13 q14 q15 q16 q17 q18 q19 : Int) (s : ByteArray) (g : Gly) (w : World)
    (H : ∀ w', Below w.heap.size w w' → Calls Try.prog 54 #[.agg #[.slice x n c, .slice y m d, .int .i64 q0, .int .i64 q1, .int .i64 q2, .int .i64 q3, .int .i64 q4, .int .i64 q5, .int .i64 q6, .int .i64 q7, .int .i64 q8, .int .i64 q9, .int .i64 q10, .int .i64 q11, .int .i64 q12, .int .i64 q13, .int .i64 q14, .int .i64 q15, .int .i64 q16, .int .i64 q17, .int .i64 q18, .int .i64 q19], .string s] w' (Gives (.tuple #[.agg #[.string g.name, .int .i64 g.w, .int .i64 g.h, .int .i64 g.d, .int .i64 g.it, .int .i64 g.at_], .bool true]) w')) :
    Calls Try.prog 36 #[.agg #[.slice x n c, .slice y m d, .int .i64 q0, .int .i64 q1, .int .i64 q2, .int .i64 q3, .int .i64 q4, .int .i64 q5, .int .i64 q6, .int .i64 q7, .int .i64 q8, .int .i64 q9, .int .i64 q10, .int .i64 q11, .int .i64 q12, .int .i64 q13, .int .i64 q14, .int .i64 q15, .int .i64 q16, .int .i64 q17, .int .i64 q18, .int .i64 q19], .string s] w (Gives (.agg #[.string g.name, .int .i64 g.w, .int .i64 g.h, .int .i64 g.d, .int .i64 g.it, .int .i64 g.at_]) w) := by
  have H1 := Lib.hid H
  clear H
  go_enter Try.func36, Try.ntmps36
  have hS := own_start w
  go_wp2_with (first|(refine own_unguard (by rfl) ?_)|(go_at_call 54;refine own_calls hS (H1.out _ hS.below) ?_;clear hS;(try clear ww);intro ww hS)|(refine w_ld rfl _ rfl (by rfl) (by first|exact rd_1 (by repeat constructor) (by first|rfl|assumption)|exact rd_w (by repeat constructor) (by rfl)|((first|refine rd_o ‹_› (by rfl) ?_|refine rd_h ‹_› (by rfl) ?_|refine rd_1o ‹_› ?_|refine rd_1h ‹_› (by first|rfl|assumption) ?_);first|exact nmn|assumption|simp)) hS ?_)|((first|refine own_box rfl _ _ rfl (by rfl) hS ?_|refine w_al rfl rfl hS ?_);clear hS;(try clear ww);intro bb ww hS)|((first|refine w_st rfl _ _ rfl (by rfl) (by rfl) (by repeat constructor) (by rfl) (by rfl) (by first|rfl|assumption) hS ?_|refine w_s1 rfl _ _ rfl (by rfl) (by repeat constructor) (by first|exact .c|exact .t rfl) (by rfl) (by repeat constructor) hS ?_);clear hS;(try clear ww);intro ww hS))
  have hc := (hS.get at1).cell
  refine bodyPost_ret (v := .agg #[.string g.name, .int .i64 g.w, .int .i64 g.h, .int .i64 g.d, .int .i64 g.it, .int .i64 g.at_]) (by simp [results, Try.results36, go_sem, hc]) rfl (own_gives hS)

set_option maxHeartbeats 4000000 in
set_option maxRecDepth 100000 in
theorem ref05_Pick_two (x y : Option Addr) (n c m d : Nat) (q0 q1 q2 q3 q4 q5 q6 q7 q8 q9 q10 q11 q12 q13 q14 q15 q16 q17 q18 q19 : Int) (s : ByteArray) (g : Gly) (w : World)
    (H : ∀ w', Below w.heap.size w w' → Calls Try.prog 54 #[.agg #[.slice x n c, .slice y m d, .int .i64 q0, .int .i64 q1, .int .i64 q2, .int .i64 q3, .int .i64 q4, .int .i64 q5, .int .i64 q6, .int .i64 q7, .int .i64 q8, .int .i64 q9, .int .i64 q10, .int .i64 q11, .int .i64 q12, .int .i64 q13, .int .i64 q14, .int .i64 q15, .int .i64 q16, .int .i64 q17, .int .i64 q18, .int .i64 q19], .string s] w' (Gives (.tuple #[.agg #[.string ⟨#[]⟩, .int .i64 0, .int .i64 0, .int .i64 0, .int .i64 0, .int .i64 0], .bool false]) w'))
    (H' : ∀ w', Below w.heap.size w w' → Calls Try.prog 54 #[.agg #[.slice x n c, .slice y m d, .int .i64 q0, .int .i64 q1, .int .i64 q2, .int .i64 q3, .int .i64 q4, .int .i64 q5, .int .i64 q6, .int .i64 q7, .int .i64 q8, .int .i64 q9, .int .i64 q10, .int .i64 q11, .int .i64 q12, .int .i64 q13, .int .i64 q14, .int .i64 q15, .int .i64 q16, .int .i64 q17, .int .i64 q18, .int .i64 q19], .string ⟨#[63]⟩] w' (Gives (.tuple #[.agg #[.string g.name, .int .i64 g.w, .int .i64 g.h, .int .i64 g.d, .int .i64 g.it, .int .i64 g.at_], .bool true]) w')) :
    Calls Try.prog 36 #[.agg #[.slice x n c, .slice y m d, .int .i64 q0, .int .i64 q1, .int .i64 q2, .int .i64 q3, .int .i64 q4, .int .i64 q5, .int .i64 q6, .int .i64 q7, .int .i64 q8, .int .i64 q9, .int .i64 q10, .int .i64 q11, .int .i64 q12, .int .i64 q13, .int .i64 q14, .int .i64 q15, .int .i64 q16, .int .i64 q17, .int .i64 q18, .int .i64 q19], .string s] w (Gives (.agg #[.string g.name, .int .i64 g.w, .int .i64 g.h, .int .i64 g.d, .int .i64 g.it, .int .i64 g.at_]) w) := by
  have H1 := Lib.hid H
  have H2 := Lib.hid H'
  clear H H'
  go_enter Try.func36, Try.ntmps36
  have hS := own_start w
  have tok1 : True := trivial
  go_wp2_with (first|(refine own_unguard (by rfl) ?_)|(go_at_call 54;have _t := tok1;refine own_calls hS (H1.out _ hS.below) ?_;clear hS tok1;(try clear ww);intro ww hS)|(go_at_call 54;refine own_calls hS (H2.out _ hS.below) ?_;clear hS;(try clear ww);intro ww hS)|(refine w_ld rfl _ rfl (by rfl) (by first|exact rd_1 (by repeat constructor) (by first|rfl|assumption)|exact rd_w (by repeat constructor) (by rfl)|((first|refine rd_o ‹_› (by rfl) ?_|refine rd_h ‹_› (by rfl) ?_|refine rd_1o ‹_› ?_|refine rd_1h ‹_› (by first|rfl|assumption) ?_);first|exact nmn|assumption|simp)) hS ?_)|((first|refine own_box rfl _ _ rfl (by rfl) hS ?_|refine w_al rfl rfl hS ?_);clear hS;(try clear ww);intro bb ww hS)|((first|refine w_st rfl _ _ rfl (by rfl) (by rfl) (by repeat constructor) (by rfl) (by rfl) (by first|rfl|assumption) hS ?_|refine w_s1 rfl _ _ rfl (by rfl) (by repeat constructor) (by first|exact .c|exact .t rfl) (by rfl) (by repeat constructor) hS ?_);clear hS;(try clear ww);intro ww hS))
  have hc := (hS.get at2).cell
  refine bodyPost_ret (v := .agg #[.string g.name, .int .i64 g.w, .int .i64 g.h, .int .i64 g.d, .int .i64 g.it, .int .i64 g.at_]) (by simp [results, Try.results36, go_sem, hc]) rfl (own_gives hS)

set_option maxHeartbeats 4000000 in
set_option maxRecDepth 100000 in
theorem ref05_Pick_three (x y : Option Addr) (n c m d : Nat) (q0 q1 q2 q3 q4 q5 q6 q7 q8 q9 q10 q11 q12 q13 q14 q15 q16 q17 q18 q19 : Int) (s : ByteArray) (w : World)
    (H : ∀ w', Below w.heap.size w w' → Calls Try.prog 54 #[.agg #[.slice x n c, .slice y m d, .int .i64 q0, .int .i64 q1, .int .i64 q2, .int .i64 q3, .int .i64 q4, .int .i64 q5, .int .i64 q6, .int .i64 q7, .int .i64 q8, .int .i64 q9, .int .i64 q10, .int .i64 q11, .int .i64 q12, .int .i64 q13, .int .i64 q14, .int .i64 q15, .int .i64 q16, .int .i64 q17, .int .i64 q18, .int .i64 q19], .string s] w' (Gives (.tuple #[.agg #[.string ⟨#[]⟩, .int .i64 0, .int .i64 0, .int .i64 0, .int .i64 0, .int .i64 0], .bool false]) w'))
    (H' : ∀ w', Below w.heap.size w w' → Calls Try.prog 54 #[.agg #[.slice x n c, .slice y m d, .int .i64 q0, .int .i64 q1, .int .i64 q2, .int .i64 q3, .int .i64 q4, .int .i64 q5, .int .i64 q6, .int .i64 q7, .int .i64 q8, .int .i64 q9, .int .i64 q10, .int .i64 q11, .int .i64 q12, .int .i64 q13, .int .i64 q14, .int .i64 q15, .int .i64 q16, .int .i64 q17, .int .i64 q18, .int .i64 q19], .string ⟨#[63]⟩] w' (Gives (.tuple #[.agg #[.string ⟨#[]⟩, .int .i64 0, .int .i64 0, .int .i64 0, .int .i64 0, .int .i64 0], .bool false]) w')) :
    Calls Try.prog 36 #[.agg #[.slice x n c, .slice y m d, .int .i64 q0, .int .i64 q1, .int .i64 q2, .int .i64 q3, .int .i64 q4, .int .i64 q5, .int .i64 q6, .int .i64 q7, .int .i64 q8, .int .i64 q9, .int .i64 q10, .int .i64 q11, .int .i64 q12, .int .i64 q13, .int .i64 q14, .int .i64 q15, .int .i64 q16, .int .i64 q17, .int .i64 q18, .int .i64 q19], .string s] w (Gives (.agg #[.string s, .int .i64 0, .int .i64 0, .int .i64 0, .int .i64 0, .int .i64 0]) w) := by
  have H1 := Lib.hid H
  have H2 := Lib.hid H'
  clear H H'
  go_enter Try.func36, Try.ntmps36
  have hS := own_start w
  have tok1 : True := trivial
  go_wp2_with (first|(refine own_unguard (by rfl) ?_)|(go_at_call 54;have _t := tok1;refine own_calls hS (H1.out _ hS.below) ?_;clear hS tok1;(try clear ww);intro ww hS)|(go_at_call 54;refine own_calls hS (H2.out _ hS.below) ?_;clear hS;(try clear ww);intro ww hS)|(refine w_ld rfl _ rfl (by rfl) (by first|exact rd_1 (by repeat constructor) (by first|rfl|assumption)|exact rd_w (by repeat constructor) (by rfl)|((first|refine rd_o ‹_› (by rfl) ?_|refine rd_h ‹_› (by rfl) ?_|refine rd_1o ‹_› ?_|refine rd_1h ‹_› (by first|rfl|assumption) ?_);first|exact nmn|assumption|simp)) hS ?_)|((first|refine own_box rfl _ _ rfl (by rfl) hS ?_|refine w_al rfl rfl hS ?_);clear hS;(try clear ww);intro bb ww hS)|((first|refine w_st rfl _ _ rfl (by rfl) (by rfl) (by repeat constructor) (by rfl) (by rfl) (by first|rfl|assumption) hS ?_|refine w_s1 rfl _ _ rfl (by rfl) (by repeat constructor) (by first|exact .c|exact .t rfl) (by rfl) (by repeat constructor) hS ?_);clear hS;(try clear ww);intro ww hS))
  have hc := (hS.get at2).cell
  refine bodyPost_ret (v := .agg #[.string s, .int .i64 0, .int .i64 0, .int .i64 0, .int .i64 0, .int .i64 0]) (by simp [results, Try.results36, go_sem, hc]) rfl (own_gives hS)

theorem ref05_Pick_calls (x y : Option Addr) (n c m d : Nat) (q0 q1 q2 q3 q4 q5 q6 q7 q8 q9 q10 q11 q12 q13 q14 q15 q16 q17 q18 q19 : Int) (gs : List Gly) (s : ByteArray) (w : World) (hn : gs.length ≤ 1000000) (h : GlysAt w (.slice x n c) gs) :
    Calls Try.prog 36 #[.agg #[.slice x n c, .slice y m d, .int .i64 q0, .int .i64 q1, .int .i64 q2, .int .i64 q3, .int .i64 q4, .int .i64 q5, .int .i64 q6, .int .i64 q7, .int .i64 q8, .int .i64 q9, .int .i64 q10, .int .i64 q11, .int .i64 q12, .int .i64 q13, .int .i64 q14, .int .i64 q15, .int .i64 q16, .int .i64 q17, .int .i64 q18, .int .i64 q19], .string s] w (Gives (.agg #[.string (pickG gs s).name, .int .i64 (pickG gs s).w, .int .i64 (pickG gs s).h, .int .i64 (pickG gs s).d, .int .i64 (pickG gs s).it, .int .i64 (pickG gs s).at_]) w) := by
  have HC := fun (w' : World) (s' : ByteArray) (hb : Below w.heap.size w w') => ref05_Find_calls (.slice x n c) (.slice y m d) (.int .i64 q0) (.int .i64 q1) (.int .i64 q2) (.int .i64 q3) (.int .i64 q4) (.int .i64 q5) (.int .i64 q6) (.int .i64 q7) (.int .i64 q8) (.int .i64 q9) (.int .i64 q10) (.int .i64 q11) (.int .i64 q12) (.int .i64 q13) (.int .i64 q14) (.int .i64 q15) (.int .i64 q16) (.int .i64 q17) (.int .i64 q18) (.int .i64 q19) gs s' w' hn (h.below hb)
  cases hf : findG gs s with
  | some g =>
    rw [pickG_one g hf]
    exact ref05_Pick_one x y n c m d q0 q1 q2 q3 q4 q5 q6 q7 q8 q9 q10 q11 q12 q13 q14 q15 q16 q17 q18 q19 s g w (fun w' hb => by have := HC w' s hb; rw [hf] at this; exact this)
  | none =>
    cases hq : findG gs ⟨#[63]⟩ with
    | some g =>
      rw [pickG_two g hf hq]
      exact ref05_Pick_two x y n c m d q0 q1 q2 q3 q4 q5 q6 q7 q8 q9 q10 q11 q12 q13 q14 q15 q16 q17 q18 q19 s g w (fun w' hb => by have := HC w' s hb; rw [hf] at this; exact this) (fun w' hb => by have := HC w' ⟨#[63]⟩ hb; rw [hq] at this; exact this)
    | none =>
      rw [pickG_three hf hq]
      exact ref05_Pick_three x y n c m d q0 q1 q2 q3 q4 q5 q6 q7 q8 q9 q10 q11 q12 q13 q14 q15 q16 q17 q18 q19 s w (fun w' hb => by have := HC w' s hb; rw [hf] at this; exact this) (fun w' hb => by have := HC w' ⟨#[63]⟩ hb; rw [hq] at this; exact this)

end Go.Proofs.Ytdbcdjiclkmknaa
namespace Go.Proofs.Ytdbcdjiclkmknaa
open Go.RowKit

attribute [local irreducible] wpQuiet wpG wpP wpK wpList Code.wp Calls

/-- The italic correction of a box, in a font. -/
def italB (F : Fnt) (n : Nat) (b : Bx n) : Int :=
  match innerS n b with
  | none => 0
  | some g => max 0 (scaledG (pickG F.gs g.2.1.name) g.2.1.size).it
theorem font_pick34 (F : Fnt) (s : ByteArray) (w : World) (h : FntOk w F) (hn : F.gs.length ≤ 500) : Calls Try.prog 45 #[F.val, .string s] w (Gives (.agg #[.string (pickG F.gs s).name, .int .i64 (pickG F.gs s).w, .int .i64 (pickG F.gs s).h, .int .i64 (pickG F.gs s).d, .int .i64 (pickG F.gs s).it, .int .i64 (pickG F.gs s).at_]) w) :=
  font_Pick_calls F.gx F.sx F.gs.length F.gc F.ss.length F.sc F.quad F.xheight F.axis F.rule F.num1 F.num2 F.den1 F.den2 F.sup1 F.sup2 F.sup3 F.sub1 F.sub2 F.supdrop F.subdrop F.script F.sscript F.dpercent F.dshort F.acc F.gs s w (by omega) h.glysAt

set_option maxHeartbeats 8000000 in
set_option maxRecDepth 100000 in
theorem italic_no1 (F : Fnt) (n : Nat) (b : Bx n) (cs : List Value) (w : World) (hF : FntOk w F) (hr : Rep w n b cs) (hv : ¬ ValidF F) : Calls Try.prog 24 #[F.val, .agg cs.toArray] w (Gives (.int .i64 0) w) := by
  have HV := Lib.hid (fun w' (h : Below w.heap.size w w') => font_Valid_calls F w' (hF.below h) false (iff_f hv))
  obtain ⟨c0, c1, c2, c3, c4, c5, c6, c7, c8, c9, c10, rfl⟩ := eleven hr.len
  clear hF hr hv
  go_enter Try.func24, Try.ntmps24
  have hS := own_start w
  go_wp2_with (first|(refine own_unguard (by rfl) ?_)|(go_at_call 39;refine own_calls hS (HV.out _ hS.below) ?_;clear hS;(try clear ww);intro ww hS)|(refine w_ld rfl _ rfl (by rfl) (by first|exact rd_1 (by repeat constructor) (by first|rfl|assumption)|exact rd_w (by repeat constructor) (by rfl)|((first|refine rd_o ‹_› (by rfl) ?_|refine rd_h ‹_› (by rfl) ?_|refine rd_1o ‹_› ?_|refine rd_1h ‹_› (by first|rfl|assumption) ?_);first|exact nmn|assumption|simp)) hS ?_)|((first|refine own_box rfl _ _ rfl (by rfl) hS ?_|refine w_al rfl rfl hS ?_);clear hS;(try clear ww);intro bb ww hS)|((first|refine w_st rfl _ _ rfl (by rfl) (by rfl) (by repeat constructor) (by rfl) (by rfl) (by first|rfl|assumption) hS ?_|refine w_s1 rfl _ _ rfl (by rfl) (by repeat constructor) (by first|exact .c|exact .t rfl) (by rfl) (by repeat constructor) hS ?_);clear hS;(try clear ww);intro ww hS))
  go_ret
  exact own_gives hS

set_option maxHeartbeats 8000000 in
set_option maxRecDepth 100000 in
theorem italic_no2 (F : Fnt) (n : Nat) (b : Bx n) (cs : List Value) (w : World) (hF : FntOk w F) (hr : Rep w n b cs) (hv : ValidF F) (hb : ¬ validB n b) : Calls Try.prog 24 #[F.val, .agg cs.toArray] w (Gives (.int .i64 0) w) := by
  have HV := Lib.hid (fun w' (h : Below w.heap.size w w') => font_Valid_calls F w' (hF.below h) true (iff_t hv))
  have HB := Lib.hid (fun w' (h : Below w.heap.size w w') => box_Valid_calls n b cs w' (hr.step h) hr.wide _ (iff_f hb))
  obtain ⟨c0, c1, c2, c3, c4, c5, c6, c7, c8, c9, c10, rfl⟩ := eleven hr.len
  clear hF hr hv hb
  go_enter Try.func24, Try.ntmps24
  have hS := own_start w
  go_wp2_with (first|(refine own_unguard (by rfl) ?_)|(go_at_call 39;refine own_calls hS (HV.out _ hS.below) ?_;clear hS;(try clear ww);intro ww hS)|(go_at_call 20;refine own_calls hS (HB.out _ hS.below) ?_;clear hS;(try clear ww);intro ww hS)|(refine w_ld rfl _ rfl (by rfl) (by first|exact rd_1 (by repeat constructor) (by first|rfl|assumption)|exact rd_w (by repeat constructor) (by rfl)|((first|refine rd_o ‹_› (by rfl) ?_|refine rd_h ‹_› (by rfl) ?_|refine rd_1o ‹_› ?_|refine rd_1h ‹_› (by first|rfl|assumption) ?_);first|exact nmn|assumption|simp)) hS ?_)|((first|refine own_box rfl _ _ rfl (by rfl) hS ?_|refine w_al rfl rfl hS ?_);clear hS;(try clear ww);intro bb ww hS)|((first|refine w_st rfl _ _ rfl (by rfl) (by rfl) (by repeat constructor) (by rfl) (by rfl) (by first|rfl|assumption) hS ?_|refine w_s1 rfl _ _ rfl (by rfl) (by repeat constructor) (by first|exact .c|exact .t rfl) (by rfl) (by repeat constructor) hS ?_);clear hS;(try clear ww);intro ww hS))
  go_ret
  exact own_gives hS

set_option maxHeartbeats 8000000 in
set_option maxRecDepth 100000 in
theorem italic_no3 (F : Fnt) (n : Nat) (b : Bx n) (cs : List Value) (w : World) (hF : FntOk w F) (hr : Rep w n b cs) (hv : ValidF F) (hb : validB n b) (hi : innerS n b = none) : Calls Try.prog 24 #[F.val, .agg cs.toArray] w (Gives (.int .i64 0) w) := by
  have HV := Lib.hid (fun w' (h : Below w.heap.size w w') => font_Valid_calls F w' (hF.below h) true (iff_t hv))
  have HB := Lib.hid (fun w' (h : Below w.heap.size w w') => box_Valid_calls n b cs w' (hr.step h) hr.wide _ (iff_t hb))
  have HI := Lib.hid (fun w' k (h : Below w.heap.size w w') (hk : w'.rangeAt k 0 cs) => innermost_calls (fun k => k < w.heap.size) n b cs k 0 w' hk (RepG.step h n b cs (rep_old n b cs hr)))
  rw [hi] at HI
  obtain ⟨c0, c1, c2, c3, c4, c5, c6, c7, c8, c9, c10, rfl⟩ := eleven hr.len
  clear hF hr hv hb hi
  go_enter Try.func24, Try.ntmps24
  have hS := own_start w
  go_wp2_with (first|(refine own_unguard (by rfl) ?_)|(go_at_call 39;refine own_calls hS (HV.out _ hS.below) ?_;clear hS;(try clear ww);intro ww hS)|(go_at_call 20;refine own_calls hS (HB.out _ hS.below) ?_;clear hS;(try clear ww);intro ww hS)|(refine w_ld rfl _ rfl (by rfl) (by first|exact rd_1 (by repeat constructor) (by first|rfl|assumption)|exact rd_w (by repeat constructor) (by rfl)|((first|refine rd_o ‹_› (by rfl) ?_|refine rd_h ‹_› (by rfl) ?_|refine rd_1o ‹_› ?_|refine rd_1h ‹_› (by first|rfl|assumption) ?_);first|exact nmn|assumption|simp)) hS ?_)|((first|refine own_box rfl _ _ rfl (by rfl) hS ?_|refine w_al rfl rfl hS ?_);clear hS;(try clear ww);intro bb ww hS)|((first|refine w_st rfl _ _ rfl (by rfl) (by rfl) (by repeat constructor) (by rfl) (by rfl) (by first|rfl|assumption) hS ?_|refine w_s1 rfl _ _ rfl (by rfl) (by repeat constructor) (by first|exact .c|exact .t rfl) (by rfl) (by repeat constructor) hS ?_);clear hS;(try clear ww);intro ww hS))
  go_at_call 43
  refine Calls.mono (HI.out _ _ hS.below (hS.get at0).range) ?_
  rintro e w1 ⟨v, rfl, hv, hb1⟩
  obtain rfl : v = _ := hv
  have hS1 := hS.step hb1
  clear hS hb1
  (try clear ww)
  have hS := hS1
  clear hS1
  go_wp2_with (first|(refine own_unguard (by rfl) ?_)|(refine w_ld rfl _ rfl (by rfl) (by first|exact rd_1 (by repeat constructor) (by first|rfl|assumption)|exact rd_w (by repeat constructor) (by rfl)|((first|refine rd_o ‹_› (by rfl) ?_|refine rd_h ‹_› (by rfl) ?_|refine rd_1o ‹_› ?_|refine rd_1h ‹_› (by first|rfl|assumption) ?_);first|exact nmn|assumption|simp)) hS ?_)|((first|refine own_box rfl _ _ rfl (by rfl) hS ?_|refine w_al rfl rfl hS ?_);clear hS;(try clear ww);intro bb ww hS)|((first|refine w_st rfl _ _ rfl (by rfl) (by rfl) (by repeat constructor) (by rfl) (by rfl) (by first|rfl|assumption) hS ?_|refine w_s1 rfl _ _ rfl (by rfl) (by repeat constructor) (by first|exact .c|exact .t rfl) (by rfl) (by repeat constructor) hS ?_);clear hS;(try clear ww);intro ww hS))
  go_ret
  exact own_gives hS

set_option maxHeartbeats 8000000 in
set_option maxRecDepth 100000 in
theorem italic_yes (F : Fnt) (n : Nat) (b : Bx n) (cs : List Value) (w : World) (hF : FntOk w F) (hr : Rep w n b cs) (hv : ValidF F) (hb : validB n b) (m : Nat) (g : Bx (m + 1)) (hi : innerS n b = some ⟨m, g⟩) : Calls Try.prog 24 #[F.val, .agg cs.toArray] w (Gives (.int .i64 (max 0 (scaledG (pickG F.gs g.1.name) g.1.size).it)) w) := by
  have HV := Lib.hid (fun w' (h : Below w.heap.size w w') => font_Valid_calls F w' (hF.below h) true (iff_t hv))
  have HB := Lib.hid (fun w' (h : Below w.heap.size w w') => box_Valid_calls n b cs w' (hr.step h) hr.wide _ (iff_t hb))
  have HI := Lib.hid (fun w' k (h : Below w.heap.size w w') (hk : w'.rangeAt k 0 cs) => innermost_calls (fun k => k < w.heap.size) n b cs k 0 w' hk (RepG.step h n b cs (rep_old n b cs hr)))
  rw [hi] at HI
  have HP := Lib.hid (fun w' (h : Below w.heap.size w w') => font_pick34 F g.1.name w' (hF.below h) (by have := hv.1; omega))
  have HSc := Lib.hid (fun w' => font_Scaled_calls (pickG F.gs g.1.name) g.1.size w')
  obtain ⟨⟨gk, gn, gz, gw, gh, gd, gx2, gy2, go2, gs2⟩, gks⟩ := g
  simp only at HP HSc ⊢
  unfold gePair at HSc
  generalize pickG F.gs gn = G at *
  generalize scaledG G gz = G2 at *
  generalize scaledErr G gz = er at *
  have hmx : ∀ (w : World) (ts : Array TypeId) (t : TypeId), (Builtin.max_ ts t #[.int .i64 0, .int .i64 G2.it]).run Try.prog w = .ok (.int .i64 (max 0 G2.it)) w := fun w ts t => by
    rw [run_max_int2]
    congr 2
    split <;> omega
  obtain ⟨c0, c1, c2, c3, c4, c5, c6, c7, c8, c9, c10, rfl⟩ := eleven hr.len
  clear hF hr hv hb hi
  go_enter Try.func24, Try.ntmps24
  have hS := own_start w
  go_wp2_with (first|(refine own_unguard (by rfl) ?_)|(go_at_call 39;refine own_calls hS (HV.out _ hS.below) ?_;clear hS;(try clear ww);intro ww hS)|(go_at_call 20;refine own_calls hS (HB.out _ hS.below) ?_;clear hS;(try clear ww);intro ww hS)|(refine w_ld rfl _ rfl (by rfl) (by first|exact rd_1 (by repeat constructor) (by first|rfl|assumption)|exact rd_w (by repeat constructor) (by rfl)|((first|refine rd_o ‹_› (by rfl) ?_|refine rd_h ‹_› (by rfl) ?_|refine rd_1o ‹_› ?_|refine rd_1h ‹_› (by first|rfl|assumption) ?_);first|exact nmn|assumption|simp)) hS ?_)|((first|refine own_box rfl _ _ rfl (by rfl) hS ?_|refine w_al rfl rfl hS ?_);clear hS;(try clear ww);intro bb ww hS)|((first|refine w_st rfl _ _ rfl (by rfl) (by rfl) (by repeat constructor) (by rfl) (by rfl) (by first|rfl|assumption) hS ?_|refine w_s1 rfl _ _ rfl (by rfl) (by repeat constructor) (by first|exact .c|exact .t rfl) (by rfl) (by repeat constructor) hS ?_);clear hS;(try clear ww);intro ww hS))
  go_at_call 43
  refine Calls.mono (HI.out _ _ hS.below (hS.get at0).range) ?_
  rintro e w1 ⟨v, rfl, ⟨k, o, gcs, rfl, hkP, hk, hg⟩, hb1⟩
  obtain ⟨_, _, _, _, rfl, _⟩ := repIn_out hg
  have hk1 := rangeAt_below hk hb1
  have HS1 := Lib.hid (hS.step hb1)
  have n1 : w1.cell? ⟨k, o + 1, none⟩ = some (.string gn) := hk1 1 _ rfl
  have n2 : w1.cell? ⟨k, o + 2, none⟩ = some (.int .i64 gz) := hk1 2 _ rfl
  have f0 := ((hS.step hb1).get at1).range
  have hB := (hS.step hb1).below
  clear hg hk hb1 hS hk1 HS1
  (try clear ww)
  have hS := own_start w1
  go_upto_region 6 with (first|(refine own_unguard (by rfl) ?_)|(refine w_ld rfl _ rfl (by rfl) (by first|exact rd_1 (by repeat constructor) (by first|rfl|assumption)|exact rd_w (by repeat constructor) (by rfl)|((first|refine rd_o ‹_› (by rfl) ?_|refine rd_h ‹_› (by rfl) ?_|refine rd_1o ‹_› ?_|refine rd_1h ‹_› (by first|rfl|assumption) ?_);first|exact nmn|assumption|simp)) hS ?_)|((first|refine own_box rfl _ _ rfl (by rfl) hS ?_|refine w_al rfl rfl hS ?_);clear hS;(try clear ww);intro bb ww hS)|((first|refine w_st rfl _ _ rfl (by rfl) (by rfl) (by repeat constructor) (by rfl) (by rfl) (by first|rfl|assumption) hS ?_|refine w_s1 rfl _ _ rfl (by rfl) (by repeat constructor) (by first|exact .c|exact .t rfl) (by rfl) (by repeat constructor) hS ?_);clear hS;(try clear ww);intro ww hS))
  (try simp only [Act.put]);(try simp only [List.setIfInBounds_toArray]);(try simp only [List.set_cons_succ]);(try simp only [List.set_cons_zero])
  refine own_any hS [15] 17 (by kernel_rfl) (by kernel_rfl) ?_
  clear hS
  intro hcl ww hS
  refine own_batch hS [0, 1, 2, 3, 4, 5, 6, 7, 8, 9, 10, 11, 12] 4 rfl hcl (by kernel_rfl) ?_
  (try simp only);repeat (first|(simp only [List.filterMap_cons])|(simp only [List.filterMap_nil])|(simp only [List.getElem?_toArray])|(simp only [List.getElem?_cons_succ])|(simp only [List.getElem?_cons_zero])|(simp only [List.reverse_cons])|(simp only [List.reverse_nil])|(simp only [List.nil_append])|(simp only [List.cons_append]))
  repeat (first
      | (first|(refine g_plain rfl ?_)|(refine g_yes rfl rfl rfl (by simp only [List.getElem?_toArray, List.getElem?_cons_succ, List.getElem?_cons_zero];rfl) (by with_reducible constructor) ?_)
         apply Exists.intro; refine ⟨?_, ?_⟩
         focus (intro wq hq0;(first|have hq : Own _ _ _ wq := hq0|have hq : Own _ _ _ wq := hq0.1|skip);first|((with_reducible show givesAt _ ({ dst := _, op := Op.load _ _, type := _, pos := _, after := _, guard := _ } : Oper) _ _ _);first|(exact givesAt_rd rfl (by rfl) (by first|exact rd_1 (by repeat constructor) (by first|rfl|assumption)|exact rd_w (by repeat constructor) (by rfl)|((first|refine rd_o ‹_› (by rfl) ?_|refine rd_h ‹_› (by rfl) ?_|refine rd_1o ‹_› ?_|refine rd_1h ‹_› (by first|rfl|assumption) ?_);first|exact nmn|assumption|simp)) hq))|(go_simp;first|(go_at_call 45;exact HP.out _ (bthen hB hq.below))|(go_at_call 44;exact HSc.out _)|(with_reducible rfl)))
         simp only [Act.put, List.setIfInBounds_toArray];(try simp only [List.set_cons_succ]);(try simp only [List.set_cons_zero]))
      | (refine g_no rfl rfl rfl (by simp only [List.getElem?_toArray, List.getElem?_cons_succ, List.getElem?_cons_zero];rfl) (by with_reducible constructor) ?_;simp only [Act.put, List.setIfInBounds_toArray];(try simp only [List.set_cons_succ]);(try simp only [List.set_cons_zero])))
  refine g_nil ?_
  clear hS hcl
  intro hcl ww hS
  (try simp only [Act.put]);(try simp only [List.setIfInBounds_toArray]);(try simp only [List.set_cons_succ]);(try simp only [List.set_cons_zero])
  refine own_pure hS [13] 3 rfl hcl (by kernel_rfl) ?_
  (try simp only);repeat (first|(simp only [List.filterMap_cons])|(simp only [List.filterMap_nil])|(simp only [List.getElem?_toArray])|(simp only [List.getElem?_cons_succ])|(simp only [List.getElem?_cons_zero])|(simp only [List.reverse_cons])|(simp only [List.reverse_nil])|(simp only [List.nil_append])|(simp only [List.cons_append]))
  repeat (first
      | (first|(refine g_plain rfl ?_)|(refine g_yes rfl rfl rfl (by simp only [List.getElem?_toArray, List.getElem?_cons_succ, List.getElem?_cons_zero];rfl) (by with_reducible constructor) ?_)
         apply Exists.intro; refine ⟨?_, ?_⟩
         focus (intro wq hq0;(first|have hq : Own _ _ _ wq := hq0|have hq : Own _ _ _ wq := hq0.1|skip);first|((with_reducible show givesAt _ ({ dst := _, op := Op.load _ _, type := _, pos := _, after := _, guard := _ } : Oper) _ _ _);first|(exact givesAt_rd rfl (by rfl) (by first|exact rd_1 (by repeat constructor) (by first|rfl|assumption)|exact rd_w (by repeat constructor) (by rfl)|((first|refine rd_o ‹_› (by rfl) ?_|refine rd_h ‹_› (by rfl) ?_|refine rd_1o ‹_› ?_|refine rd_1h ‹_› (by first|rfl|assumption) ?_);first|exact nmn|assumption|simp)) hq))|(go_simp;first|(with_reducible rfl)))
         simp only [Act.put, List.setIfInBounds_toArray];(try simp only [List.set_cons_succ]);(try simp only [List.set_cons_zero]))
      | (refine g_no rfl rfl rfl (by simp only [List.getElem?_toArray, List.getElem?_cons_succ, List.getElem?_cons_zero];rfl) (by with_reducible constructor) ?_;simp only [Act.put, List.setIfInBounds_toArray];(try simp only [List.set_cons_succ]);(try simp only [List.set_cons_zero])))
  refine g_nil ?_
  clear hS hcl
  intro hcl ww hS
  (try simp only [Act.put]);(try simp only [List.setIfInBounds_toArray]);(try simp only [List.set_cons_succ]);(try simp only [List.set_cons_zero])
  refine own_frees hS [(14, 6, [.string ⟨#[]⟩, .int .i64 0, .int .i64 0, .int .i64 0, .int .i64 0, .int .i64 0])] 2 rfl (.cons (by simp only [List.getElem?_toArray, List.getElem?_cons_succ, List.getElem?_cons_zero]; rfl) rfl rfl rfl zt_glyph .nil) hcl (by kernel_rfl) ?_
  clear hS hcl
  intro f wf hcl hS
  simp only [putF, ownF, List.map_cons, List.map_nil, List.foldr_cons, List.foldr_nil, List.cons_append, List.nil_append] at hS hcl ⊢
  generalize f 14 = b6 at *
  (try simp only [Act.put]);(try simp only [List.setIfInBounds_toArray]);(try simp only [List.set_cons_succ]);(try simp only [List.set_cons_zero])
  refine own_hard (D := []) (W := w1) 15 hcl (by simp only [List.getElem?_toArray, List.getElem?_cons_succ, List.getElem?_cons_zero]; rfl) (by kernel_rfl) (by kernel_rfl) ?_
  (refine w_st rfl _ _ rfl (by rfl) (by rfl) (by repeat constructor) (by rfl) (by rfl) (by first|rfl|assumption) hS ?_;clear hS;intro ww hS)
  refine wpList_nil ⟨rfl, _, hS, ?_⟩
  clear hS hcl
  intro hcl wg hS
  (try simp only [Act.put]);(try simp only [List.setIfInBounds_toArray]);(try simp only [List.set_cons_succ]);(try simp only [List.set_cons_zero])
  refine own_batch hS [16] 0 rfl hcl (by kernel_rfl) ?_
  (try simp only);repeat (first|(simp only [List.filterMap_cons])|(simp only [List.filterMap_nil])|(simp only [List.getElem?_toArray])|(simp only [List.getElem?_cons_succ])|(simp only [List.getElem?_cons_zero])|(simp only [List.reverse_cons])|(simp only [List.reverse_nil])|(simp only [List.nil_append])|(simp only [List.cons_append]))
  repeat (first
      | (first|(refine g_plain rfl ?_)|(refine g_yes rfl rfl rfl (by simp only [List.getElem?_toArray, List.getElem?_cons_succ, List.getElem?_cons_zero];rfl) (by with_reducible constructor) ?_)
         apply Exists.intro; refine ⟨?_, ?_⟩
         focus (intro wq hq0;(first|have hq : Own _ _ _ wq := hq0|have hq : Own _ _ _ wq := hq0.1|skip);first|((with_reducible show givesAt _ ({ dst := _, op := Op.load _ _, type := _, pos := _, after := _, guard := _ } : Oper) _ _ _);first|(exact givesAt_rd rfl (by rfl) (by first|exact rd_1 (by repeat constructor) (by first|rfl|assumption)|exact rd_w (by repeat constructor) (by rfl)|((first|refine rd_o ‹_› (by rfl) ?_|refine rd_h ‹_› (by rfl) ?_|refine rd_1o ‹_› ?_|refine rd_1h ‹_› (by first|rfl|assumption) ?_);first|exact nmn|assumption|simp)) hq))|(go_simp;first|(with_reducible rfl)))
         simp only [Act.put, List.setIfInBounds_toArray];(try simp only [List.set_cons_succ]);(try simp only [List.set_cons_zero]))
      | (refine g_no rfl rfl rfl (by simp only [List.getElem?_toArray, List.getElem?_cons_succ, List.getElem?_cons_zero];rfl) (by with_reducible constructor) ?_;simp only [Act.put, List.setIfInBounds_toArray];(try simp only [List.set_cons_succ]);(try simp only [List.set_cons_zero])))
  refine g_nil ?_
  clear hS hcl
  intro hcl ww hS
  refine own_done (by kernel_rfl) ?_
  go_wp2_with (first|(refine own_unguard (by rfl) ?_)|(refine w_ld rfl _ rfl (by rfl) (by first|exact rd_1 (by repeat constructor) (by first|rfl|assumption)|exact rd_w (by repeat constructor) (by rfl)|((first|refine rd_o ‹_› (by rfl) ?_|refine rd_h ‹_› (by rfl) ?_|refine rd_1o ‹_› ?_|refine rd_1h ‹_› (by first|rfl|assumption) ?_);first|exact nmn|assumption|simp)) hS ?_)|((first|refine own_box rfl _ _ rfl (by rfl) hS ?_|refine w_al rfl rfl hS ?_);clear hS;(try clear ww);intro bb ww hS)|((first|refine w_st rfl _ _ rfl (by rfl) (by rfl) (by repeat constructor) (by rfl) (by rfl) (by first|rfl|assumption) hS ?_|refine w_s1 rfl _ _ rfl (by rfl) (by repeat constructor) (by first|exact .c|exact .t rfl) (by rfl) (by repeat constructor) hS ?_);clear hS;(try clear ww);intro ww hS))
  go_ret
  exact ⟨rfl, bthen hB hS.below⟩

theorem script_Italic_calls (F : Fnt) (n : Nat) (b : Bx n) (cs : List Value) (w : World) (hF : FntOk w F) (hr : Rep w n b cs) : Calls Try.prog 24 #[F.val, .agg cs.toArray] w (Gives (.int .i64 (open Classical in if ValidF F ∧ validB n b then italB F n b else 0)) w) := by
  split
  · rename_i h
    unfold italB
    cases hi : innerS n b with
    | none => exact italic_no3 F n b cs w hF hr h.1 h.2 hi
    | some g => exact italic_yes F n b cs w hF hr h.1 h.2 g.1 g.2 hi
  · rename_i h
    by_cases hv : ValidF F
    · exact italic_no2 F n b cs w hF hr hv (fun hb => h ⟨hv, hb⟩)
    · exact italic_no1 F n b cs w hF hr hv

end Go.Proofs.Ytdbcdjiclkmknaa
