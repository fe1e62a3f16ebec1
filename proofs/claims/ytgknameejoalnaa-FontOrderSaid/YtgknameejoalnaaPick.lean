/- Pick, in package font and in its reference. -/
import Derived.Test.YtgknameejoalnaaTyp
namespace Go.Proofs.Ytgknameejoalnaa
open Go.RowKit

attribute [local irreducible] wpQuiet wpList Code.wp

theorem GlysAt.below {w w' : World} {v : Value} {gs : List Gly} (h : GlysAt w v gs) (hb : Below w.heap.size w w') : GlysAt w' v gs := by
  rcases h with h | ⟨b, o, c, rfl, h⟩
  · exact .inl h
  · refine .inr ⟨b, o, c, rfl, fun i g hi => ?_⟩
    obtain ⟨h0, h1, h2, h3, h4, h5⟩ := h i g hi
    have hl : b < w.heap.size := World.block_lt_of_cell? w _ h0
    exact ⟨(hb.cell hl).trans h0, (hb.cell hl).trans h1, (hb.cell hl).trans h2, (hb.cell hl).trans h3, (hb.cell hl).trans h4, (hb.cell hl).trans h5⟩

/-- What Pick returns. -/
def pickG (gs : List Gly) (s : ByteArray) : Gly :=
  match findG gs s with
  | some g => g
  | none => match findG gs ⟨#[63]⟩ with
    | some g => g
    | none => { name := s, w := 0, h := 0, d := 0, it := 0, at_ := 0 }

theorem pickG_one {gs : List Gly} {s : ByteArray} (g : Gly) (h : findG gs s = some g) : pickG gs s = g := by unfold pickG; rw [h]
theorem pickG_two {gs : List Gly} {s : ByteArray} (g : Gly) (h : findG gs s = none) (h2 : findG gs ⟨#[63]⟩ = some g) : pickG gs s = g := by unfold pickG; rw [h]; simp only [h2]
theorem pickG_three {gs : List Gly} {s : ByteArray} (h : findG gs s = none) (h2 : findG gs ⟨#[63]⟩ = none) : pickG gs s = { name := s, w := 0, h := 0, d := 0, it := 0, at_ := 0 } := by unfold pickG; rw [h]; simp only [h2]

set_option maxHeartbeats 4000000 in
set_option maxRecDepth 100000 in
theorem font_Pick_one (x y : Option Addr) (n c m d : Nat) (q0 q1 q2 q3 q4 q5 q6 q7 q8 q9 q10 q11 q12 q13 q14 q15 q16 q17 q18 q19 : Int) (s : ByteArray) (g : Gly) (w : World)
    (H : ∀ w', Below w.heap.size w w' → Calls Try.prog 15 #[.agg #[.slice x n c, .slice y m d, .int .i64 q0, .int .i64 q1, .int .i64 q2, .int .i64 q3, .int .i64 q4, .int .i64 q5, .int .i64 q6, .int .i64 q7, .int .i64 q8, .int .i64 q9, .int .i64 q10, .int .i64 q11, .int .i64 q12, .int .i64 q13, .int .i64 q14, .int .i64 q15, .int .i64 q16, .int .i64 q17, .int .i64 q18, .int .i64 q19], .string s] w' (Gives (.tuple #[.agg #[.string g.name, .int .i64 g.w, .int .i64 g.h, .int .i64 g.d, .int .i64 g.it, .int .i64 g.at_], .bool true]) w')) :
    Calls Try.prog 19 #[.agg #[.slice x n c, .slice y m d, .int .i64 q0, .int .i64 q1, .int .i64 q2, .int .i64 q3, .int .i64 q4, .int .i64 q5, .int .i64 q6, .int .i64 q7, .int .i64 q8, .int .i64 q9, .int .i64 q10, .int .i64 q11, .int .i64 q12, .int .i64 q13, .int .i64 q14, .int .i64 q15, .int .i64 q16, .int .i64 q17, .int .i64 q18, .int .i64 q19], .string s] w (Gives (.agg #[.string g.name, .int .i64 g.w, .int .i64 g.h, .int .i64 g.d, .int .i64 g.it, .int .i64 g.at_]) w) := by
  have H1 := Lib.hid H
  clear H
  go_enter Try.func19, Try.ntmps19
  have hS := own_start w
  go_wp2_with (first
    | (refine own_unguard (by rfl) ?_)
    | (go_at_call 15; refine own_calls hS (H1.out _ hS.below) ?_; clear hS; (try clear ww); intro ww hS)
    | (refine own_load1 rfl _ _ rfl rfl hS (by first | exact at0 | exact at1 | exact at2 | exact at3 | exact at4 | exact at5 | exact at6 | exact at7 | exact at8) (by first | exact ot_int | exact ot_string) (by first | rfl | assumption) ?_)
    | (refine own_load rfl _ _ rfl rfl hS (by first | exact at0 | exact at1 | exact at2 | exact at3 | exact at4 | exact at5 | exact at6 | exact at7 | exact at8) (by first | exact rt_font | exact rt_glyph) ?_)
    | (refine own_load_old rfl _ _ rfl rfl hS (by assumption) (by first | exact List.not_mem_nil | assumption) (by first | exact rt_font | exact rt_glyph) ?_)
    | (refine own_load_has rfl _ _ rfl rfl hS (by assumption) (by first | exact List.not_mem_nil | assumption) (by first | exact rt_font | exact rt_glyph) ?_)
    | (refine own_load1_old rfl _ _ rfl rfl hS (by assumption) (by first | exact List.not_mem_nil | assumption) (by first | exact ot_int | exact ot_string) ?_)
    | (refine own_load1_has rfl _ _ rfl rfl hS (by assumption) (by first | exact List.not_mem_nil | assumption) (by first | exact ot_int | exact ot_string) (by first | rfl | assumption) ?_)
    | (refine own_box rfl _ _ rfl rfl hS ?_; clear hS; (try clear ww); intro bb ww hS)
    | (refine own_alloc rfl _ rfl hS (by first | exact zt_glyph) ?_; clear hS; (try clear ww); intro bb ww hS)
    | (refine own_store rfl _ _ _ rfl rfl rfl hS (by first | exact at0 | exact at1 | exact at2 | exact at3 | exact at4 | exact at5 | exact at6 | exact at7 | exact at8) (by first | exact rt_font | exact rt_glyph) (by rfl) (by rfl) ?_; clear hS; (try clear ww); intro ww hS; (try simp only at hS); (try simp only [List.set_cons_succ] at hS); (try simp only [List.set_cons_zero] at hS))
    | (refine own_store1 rfl _ _ _ rfl rfl rfl rfl hS (by first | exact at0 | exact at1 | exact at2 | exact at3 | exact at4 | exact at5 | exact at6 | exact at7 | exact at8) (by first | exact ot_int | exact ot_string) (by simp) ?_; clear hS; (try clear ww); intro ww hS; (try simp only at hS); (try simp only [List.set_cons_succ] at hS); (try simp only [List.set_cons_zero] at hS); (try simp only [Act.eval] at hS); (try simp only [Array.getD_eq_getD_getElem?] at hS); (try simp only [List.getElem?_toArray] at hS); (try simp only [List.getElem?_cons_succ] at hS); (try simp only [List.getElem?_cons_zero] at hS); (try simp only [Option.getD_some] at hS)))
  have hc := (hS.get at1).cell
  refine bodyPost_ret (v := .agg #[.string g.name, .int .i64 g.w, .int .i64 g.h, .int .i64 g.d, .int .i64 g.it, .int .i64 g.at_]) (by simp [results, Try.results19, go_sem, hc]) rfl (own_gives hS)

set_option maxHeartbeats 4000000 in
set_option maxRecDepth 100000 in
theorem font_Pick_two (x y : Option Addr) (n c m d : Nat) (q0 q1 q2 q3 q4 q5 q6 q7 q8 q9 q10 q11 q12 q13 q14 q15 q16 q17 q18 q19 : Int) (s : ByteArray) (g : Gly) (w : World)
    (H : ∀ w', Below w.heap.size w w' → Calls Try.prog 15 #[.agg #[.slice x n c, .slice y m d, .int .i64 q0, .int .i64 q1, .int .i64 q2, .int .i64 q3, .int .i64 q4, .int .i64 q5, .int .i64 q6, .int .i64 q7, .int .i64 q8, .int .i64 q9, .int .i64 q10, .int .i64 q11, .int .i64 q12, .int .i64 q13, .int .i64 q14, .int .i64 q15, .int .i64 q16, .int .i64 q17, .int .i64 q18, .int .i64 q19], .string s] w' (Gives (.tuple #[.agg #[.string ⟨#[]⟩, .int .i64 0, .int .i64 0, .int .i64 0, .int .i64 0, .int .i64 0], .bool false]) w'))
    (H' : ∀ w', Below w.heap.size w w' → Calls Try.prog 15 #[.agg #[.slice x n c, .slice y m d, .int .i64 q0, .int .i64 q1, .int .i64 q2, .int .i64 q3, .int .i64 q4, .int .i64 q5, .int .i64 q6, .int .i64 q7, .int .i64 q8, .int .i64 q9, .int .i64 q10, .int .i64 q11, .int .i64 q12, .int .i64 q13, .int .i64 q14, .int .i64 q15, .int .i64 q16, .int .i64 q17, .int .i64 q18, .int .i64 q19], .string ⟨#[63]⟩] w' (Gives (.tuple #[.agg #[.string g.name, .int .i64 g.w, .int .i64 g.h, .int .i64 g.d, .int .i64 g.it, .int .i64 g.at_], .bool true]) w')) :
    Calls Try.prog 19 #[.agg #[.slice x n c, .slice y m d, .int .i64 q0, .int .i64 q1, .int .i64 q2, .int .i64 q3, .int .i64 q4, .int .i64 q5, .int .i64 q6, .int .i64 q7, .int .i64 q8, .int .i64 q9, .int .i64 q10, .int .i64 q11, .int .i64 q12, .int .i64 q13, .int .i64 q14, .int .i64 q15, .int .i64 q16, .int .i64 q17, .int .i64 q18, .int .i64 q19], .string s] w (Gives (.agg #[.string g.name, .int .i64 g.w, .int .i64 g.h, .int .i64 g.d, .int .i64 g.it, .int .i64 g.at_]) w) := by
  have H1 := Lib.hid H
  have H2 := Lib.hid H'
  clear H H'
  go_enter Try.func19, Try.ntmps19
  have hS := own_start w
  have tok1 : True := trivial
  go_wp2_with (first
    | (refine own_unguard (by rfl) ?_)
    | (go_at_call 15; have _t := tok1; refine own_calls hS (H1.out _ hS.below) ?_; clear hS tok1; (try clear ww); intro ww hS)
    | (go_at_call 15; refine own_calls hS (H2.out _ hS.below) ?_; clear hS; (try clear ww); intro ww hS)
    | (refine own_load1 rfl _ _ rfl rfl hS (by first | exact at0 | exact at1 | exact at2 | exact at3 | exact at4 | exact at5 | exact at6 | exact at7 | exact at8) (by first | exact ot_int | exact ot_string) (by first | rfl | assumption) ?_)
    | (refine own_load rfl _ _ rfl rfl hS (by first | exact at0 | exact at1 | exact at2 | exact at3 | exact at4 | exact at5 | exact at6 | exact at7 | exact at8) (by first | exact rt_font | exact rt_glyph) ?_)
    | (refine own_load_old rfl _ _ rfl rfl hS (by assumption) (by first | exact List.not_mem_nil | assumption) (by first | exact rt_font | exact rt_glyph) ?_)
    | (refine own_load_has rfl _ _ rfl rfl hS (by assumption) (by first | exact List.not_mem_nil | assumption) (by first | exact rt_font | exact rt_glyph) ?_)
    | (refine own_load1_old rfl _ _ rfl rfl hS (by assumption) (by first | exact List.not_mem_nil | assumption) (by first | exact ot_int | exact ot_string) ?_)
    | (refine own_load1_has rfl _ _ rfl rfl hS (by assumption) (by first | exact List.not_mem_nil | assumption) (by first | exact ot_int | exact ot_string) (by first | rfl | assumption) ?_)
    | (refine own_box rfl _ _ rfl rfl hS ?_; clear hS; (try clear ww); intro bb ww hS)
    | (refine own_alloc rfl _ rfl hS (by first | exact zt_glyph) ?_; clear hS; (try clear ww); intro bb ww hS)
    | (refine own_store rfl _ _ _ rfl rfl rfl hS (by first | exact at0 | exact at1 | exact at2 | exact at3 | exact at4 | exact at5 | exact at6 | exact at7 | exact at8) (by first | exact rt_font | exact rt_glyph) (by rfl) (by rfl) ?_; clear hS; (try clear ww); intro ww hS; (try simp only at hS); (try simp only [List.set_cons_succ] at hS); (try simp only [List.set_cons_zero] at hS))
    | (refine own_store1 rfl _ _ _ rfl rfl rfl rfl hS (by first | exact at0 | exact at1 | exact at2 | exact at3 | exact at4 | exact at5 | exact at6 | exact at7 | exact at8) (by first | exact ot_int | exact ot_string) (by simp) ?_; clear hS; (try clear ww); intro ww hS; (try simp only at hS); (try simp only [List.set_cons_succ] at hS); (try simp only [List.set_cons_zero] at hS); (try simp only [Act.eval] at hS); (try simp only [Array.getD_eq_getD_getElem?] at hS); (try simp only [List.getElem?_toArray] at hS); (try simp only [List.getElem?_cons_succ] at hS); (try simp only [List.getElem?_cons_zero] at hS); (try simp only [Option.getD_some] at hS)))
  have hc := (hS.get at2).cell
  refine bodyPost_ret (v := .agg #[.string g.name, .int .i64 g.w, .int .i64 g.h, .int .i64 g.d, .int .i64 g.it, .int .i64 g.at_]) (by simp [results, Try.results19, go_sem, hc]) rfl (own_gives hS)

set_option maxHeartbeats 4000000 in
set_option maxRecDepth 100000 in
theorem font_Pick_three (x y : Option Addr) (n c m d : Nat) (q0 q1 q2 q3 q4 q5 q6 q7 q8 q9 q10 q11 q12 q13 q14 q15 q16 q17 q18 q19 : Int) (s : ByteArray) (w : World)
    (H : ∀ w', Below w.heap.size w w' → Calls Try.prog 15 #[.agg #[.slice x n c, .slice y m d, .int .i64 q0, .int .i64 q1, .int .i64 q2, .int .i64 q3, .int .i64 q4, .int .i64 q5, .int .i64 q6, .int .i64 q7, .int .i64 q8, .int .i64 q9, .int .i64 q10, .int .i64 q11, .int .i64 q12, .int .i64 q13, .int .i64 q14, .int .i64 q15, .int .i64 q16, .int .i64 q17, .int .i64 q18, .int .i64 q19], .string s] w' (Gives (.tuple #[.agg #[.string ⟨#[]⟩, .int .i64 0, .int .i64 0, .int .i64 0, .int .i64 0, .int .i64 0], .bool false]) w'))
    (H' : ∀ w', Below w.heap.size w w' → Calls Try.prog 15 #[.agg #[.slice x n c, .slice y m d, .int .i64 q0, .int .i64 q1, .int .i64 q2, .int .i64 q3, .int .i64 q4, .int .i64 q5, .int .i64 q6, .int .i64 q7, .int .i64 q8, .int .i64 q9, .int .i64 q10, .int .i64 q11, .int .i64 q12, .int .i64 q13, .int .i64 q14, .int .i64 q15, .int .i64 q16, .int .i64 q17, .int .i64 q18, .int .i64 q19], .string ⟨#[63]⟩] w' (Gives (.tuple #[.agg #[.string ⟨#[]⟩, .int .i64 0, .int .i64 0, .int .i64 0, .int .i64 0, .int .i64 0], .bool false]) w')) :
    Calls Try.prog 19 #[.agg #[.slice x n c, .slice y m d, .int .i64 q0, .int .i64 q1, .int .i64 q2, .int .i64 q3, .int .i64 q4, .int .i64 q5, .int .i64 q6, .int .i64 q7, .int .i64 q8, .int .i64 q9, .int .i64 q10, .int .i64 q11, .int .i64 q12, .int .i64 q13, .int .i64 q14, .int .i64 q15, .int .i64 q16, .int .i64 q17, .int .i64 q18, .int .i64 q19], .string s] w (Gives (.agg #[.string s, .int .i64 0, .int .i64 0, .int .i64 0, .int .i64 0, .int .i64 0]) w) := by
  have H1 := Lib.hid H
  have H2 := Lib.hid H'
  clear H H'
  go_enter Try.func19, Try.ntmps19
  have hS := own_start w
  have tok1 : True := trivial
  go_wp2_with (first
    | (refine own_unguard (by rfl) ?_)
    | (go_at_call 15; have _t := tok1; refine own_calls hS (H1.out _ hS.below) ?_; clear hS tok1; (try clear ww); intro ww hS)
    | (go_at_call 15; refine own_calls hS (H2.out _ hS.below) ?_; clear hS; (try clear ww); intro ww hS)
    | (refine own_load1 rfl _ _ rfl rfl hS (by first | exact at0 | exact at1 | exact at2 | exact at3 | exact at4 | exact at5 | exact at6 | exact at7 | exact at8) (by first | exact ot_int | exact ot_string) (by first | rfl | assumption) ?_)
    | (refine own_load rfl _ _ rfl rfl hS (by first | exact at0 | exact at1 | exact at2 | exact at3 | exact at4 | exact at5 | exact at6 | exact at7 | exact at8) (by first | exact rt_font | exact rt_glyph) ?_)
    | (refine own_load_old rfl _ _ rfl rfl hS (by assumption) (by first | exact List.not_mem_nil | assumption) (by first | exact rt_font | exact rt_glyph) ?_)
    | (refine own_load_has rfl _ _ rfl rfl hS (by assumption) (by first | exact List.not_mem_nil | assumption) (by first | exact rt_font | exact rt_glyph) ?_)
    | (refine own_load1_old rfl _ _ rfl rfl hS (by assumption) (by first | exact List.not_mem_nil | assumption) (by first | exact ot_int | exact ot_string) ?_)
    | (refine own_load1_has rfl _ _ rfl rfl hS (by assumption) (by first | exact List.not_mem_nil | assumption) (by first | exact ot_int | exact ot_string) (by first | rfl | assumption) ?_)
    | (refine own_box rfl _ _ rfl rfl hS ?_; clear hS; (try clear ww); intro bb ww hS)
    | (refine own_alloc rfl _ rfl hS (by first | exact zt_glyph) ?_; clear hS; (try clear ww); intro bb ww hS)
    | (refine own_store rfl _ _ _ rfl rfl rfl hS (by first | exact at0 | exact at1 | exact at2 | exact at3 | exact at4 | exact at5 | exact at6 | exact at7 | exact at8) (by first | exact rt_font | exact rt_glyph) (by rfl) (by rfl) ?_; clear hS; (try clear ww); intro ww hS; (try simp only at hS); (try simp only [List.set_cons_succ] at hS); (try simp only [List.set_cons_zero] at hS))
    | (refine own_store1 rfl _ _ _ rfl rfl rfl rfl hS (by first | exact at0 | exact at1 | exact at2 | exact at3 | exact at4 | exact at5 | exact at6 | exact at7 | exact at8) (by first | exact ot_int | exact ot_string) (by simp) ?_; clear hS; (try clear ww); intro ww hS; (try simp only at hS); (try simp only [List.set_cons_succ] at hS); (try simp only [List.set_cons_zero] at hS); (try simp only [Act.eval] at hS); (try simp only [Array.getD_eq_getD_getElem?] at hS); (try simp only [List.getElem?_toArray] at hS); (try simp only [List.getElem?_cons_succ] at hS); (try simp only [List.getElem?_cons_zero] at hS); (try simp only [Option.getD_some] at hS)))
  have hc := (hS.get at2).cell
  refine bodyPost_ret (v := .agg #[.string s, .int .i64 0, .int .i64 0, .int .i64 0, .int .i64 0, .int .i64 0]) (by simp [results, Try.results19, go_sem, hc]) rfl (own_gives hS)

theorem font_Pick_calls (x y : Option Addr) (n c m d : Nat) (q0 q1 q2 q3 q4 q5 q6 q7 q8 q9 q10 q11 q12 q13 q14 q15 q16 q17 q18 q19 : Int) (gs : List Gly) (s : ByteArray) (w : World) (hn : gs.length ≤ 1000000) (h : GlysAt w (.slice x n c) gs) :
    Calls Try.prog 19 #[.agg #[.slice x n c, .slice y m d, .int .i64 q0, .int .i64 q1, .int .i64 q2, .int .i64 q3, .int .i64 q4, .int .i64 q5, .int .i64 q6, .int .i64 q7, .int .i64 q8, .int .i64 q9, .int .i64 q10, .int .i64 q11, .int .i64 q12, .int .i64 q13, .int .i64 q14, .int .i64 q15, .int .i64 q16, .int .i64 q17, .int .i64 q18, .int .i64 q19], .string s] w (Gives (.agg #[.string (pickG gs s).name, .int .i64 (pickG gs s).w, .int .i64 (pickG gs s).h, .int .i64 (pickG gs s).d, .int .i64 (pickG gs s).it, .int .i64 (pickG gs s).at_]) w) := by
  have HC := fun (w' : World) (s' : ByteArray) (hb : Below w.heap.size w w') => font_Find_calls (.slice x n c) (.slice y m d) (.int .i64 q0) (.int .i64 q1) (.int .i64 q2) (.int .i64 q3) (.int .i64 q4) (.int .i64 q5) (.int .i64 q6) (.int .i64 q7) (.int .i64 q8) (.int .i64 q9) (.int .i64 q10) (.int .i64 q11) (.int .i64 q12) (.int .i64 q13) (.int .i64 q14) (.int .i64 q15) (.int .i64 q16) (.int .i64 q17) (.int .i64 q18) (.int .i64 q19) gs s' w' hn (h.below hb)
  cases hf : findG gs s with
  | some g =>
    rw [pickG_one g hf]
    exact font_Pick_one x y n c m d q0 q1 q2 q3 q4 q5 q6 q7 q8 q9 q10 q11 q12 q13 q14 q15 q16 q17 q18 q19 s g w (fun w' hb => by have := HC w' s hb; rw [hf] at this; exact this)
  | none =>
    cases hq : findG gs ⟨#[63]⟩ with
    | some g =>
      rw [pickG_two g hf hq]
      exact font_Pick_two x y n c m d q0 q1 q2 q3 q4 q5 q6 q7 q8 q9 q10 q11 q12 q13 q14 q15 q16 q17 q18 q19 s g w (fun w' hb => by have := HC w' s hb; rw [hf] at this; exact this) (fun w' hb => by have := HC w' ⟨#[63]⟩ hb; rw [hq] at this; exact this)
    | none =>
      rw [pickG_three hf hq]
      exact font_Pick_three x y n c m d q0 q1 q2 q3 q4 q5 q6 q7 q8 q9 q10 q11 q12 q13 q14 q15 q16 q17 q18 q19 s w (fun w' hb => by have := HC w' s hb; rw [hf] at this; exact this) (fun w' hb => by have := HC w' ⟨#[63]⟩ hb; rw [hq] at this; exact this)

set_option maxHeartbeats 4000000 in
set_option maxRecDepth 100000 in
theorem ref05_Pick_one (x y : Option Addr) (n c m d : Nat) (q0 q1 q2 q3 q4 q5 q6 q7 q8 q9 q10 q11 q12 q13 q14 q15 q16 q17 q18 q19 : Int) (s : ByteArray) (g : Gly) (w : World)
    (H : ∀ w', Below w.heap.size w w' → Calls Try.prog 16 #[.agg #[.slice x n c, .slice y m d, .int .i64 q0, .int .i64 q1, .int .i64 q2, .int .i64 q3, .int .i64 q4, .int .i64 q5, .int .i64 q6, .int .i64 q7, .int .i64 q8, .int .i64 q9, .int .i64 q10, .int .i64 q11, .int .i64 q12, .int .i64 q13, .int .i64 q14, .int .i64 q15, .int .i64 q16, .int .i64 q17, .int .i64 q18, .int .i64 q19], .string s] w' (Gives (.tuple #[.agg #[.string g.name, .int .i64 g.w, .int .i64 g.h, .int .i64 g.d, .int .i64 g.it, .int .i64 g.at_], .bool true]) w')) :
    Calls Try.prog 20 #[.agg #[.slice x n c, .slice y m d, .int .i64 q0, .int .i64 q1, .int .i64 q2, .int .i64 q3, .int .i64 q4, .int .i64 q5, .int .i64 q6, .int .i64 q7, .int .i64 q8, .int .i64 q9, .int .i64 q10, .int .i64 q11, .int .i64 q12, .int .i64 q13, .int .i64 q14, .int .i64 q15, .int .i64 q16, .int .i64 q17, .int .i64 q18, .int .i64 q19], .string s] w (Gives (.agg #[.string g.name, .int .i64 g.w, .int .i64 g.h, .int .i64 g.d, .int .i64 g.it, .int .i64 g.at_]) w) := by
  have H1 := Lib.hid H
  clear H
  go_enter Try.func20, Try.ntmps20
  have hS := own_start w
  go_wp2_with (first
    | (refine own_unguard (by rfl) ?_)
    | (go_at_call 16; refine own_calls hS (H1.out _ hS.below) ?_; clear hS; (try clear ww); intro ww hS)
    | (refine own_load1 rfl _ _ rfl rfl hS (by first | exact at0 | exact at1 | exact at2 | exact at3 | exact at4 | exact at5 | exact at6 | exact at7 | exact at8) (by first | exact ot_int | exact ot_string) (by first | rfl | assumption) ?_)
    | (refine own_load rfl _ _ rfl rfl hS (by first | exact at0 | exact at1 | exact at2 | exact at3 | exact at4 | exact at5 | exact at6 | exact at7 | exact at8) (by first | exact rt_font | exact rt_glyph) ?_)
    | (refine own_load_old rfl _ _ rfl rfl hS (by assumption) (by first | exact List.not_mem_nil | assumption) (by first | exact rt_font | exact rt_glyph) ?_)
    | (refine own_load_has rfl _ _ rfl rfl hS (by assumption) (by first | exact List.not_mem_nil | assumption) (by first | exact rt_font | exact rt_glyph) ?_)
    | (refine own_load1_old rfl _ _ rfl rfl hS (by assumption) (by first | exact List.not_mem_nil | assumption) (by first | exact ot_int | exact ot_string) ?_)
    | (refine own_load1_has rfl _ _ rfl rfl hS (by assumption) (by first | exact List.not_mem_nil | assumption) (by first | exact ot_int | exact ot_string) (by first | rfl | assumption) ?_)
    | (refine own_box rfl _ _ rfl rfl hS ?_; clear hS; (try clear ww); intro bb ww hS)
    | (refine own_alloc rfl _ rfl hS (by first | exact zt_glyph) ?_; clear hS; (try clear ww); intro bb ww hS)
    | (refine own_store rfl _ _ _ rfl rfl rfl hS (by first | exact at0 | exact at1 | exact at2 | exact at3 | exact at4 | exact at5 | exact at6 | exact at7 | exact at8) (by first | exact rt_font | exact rt_glyph) (by rfl) (by rfl) ?_; clear hS; (try clear ww); intro ww hS; (try simp only at hS); (try simp only [List.set_cons_succ] at hS); (try simp only [List.set_cons_zero] at hS))
    | (refine own_store1 rfl _ _ _ rfl rfl rfl rfl hS (by first | exact at0 | exact at1 | exact at2 | exact at3 | exact at4 | exact at5 | exact at6 | exact at7 | exact at8) (by first | exact ot_int | exact ot_string) (by simp) ?_; clear hS; (try clear ww); intro ww hS; (try simp only at hS); (try simp only [List.set_cons_succ] at hS); (try simp only [List.set_cons_zero] at hS); (try simp only [Act.eval] at hS); (try simp only [Array.getD_eq_getD_getElem?] at hS); (try simp only [List.getElem?_toArray] at hS); (try simp only [List.getElem?_cons_succ] at hS); (try simp only [List.getElem?_cons_zero] at hS); (try simp only [Option.getD_some] at hS)))
  have hc := (hS.get at1).cell
  refine bodyPost_ret (v := .agg #[.string g.name, .int .i64 g.w, .int .i64 g.h, .int .i64 g.d, .int .i64 g.it, .int .i64 g.at_]) (by simp [results, Try.results20, go_sem, hc]) rfl (own_gives hS)

set_option maxHeartbeats 4000000 in
set_option maxRecDepth 100000 in
theorem ref05_Pick_two (x y : Option Addr) (n c m d : Nat) (q0 q1 q2 q3 q4 q5 q6 q7 q8 q9 q10 q11 q12 q13 q14 q15 q16 q17 q18 q19 : Int) (s : ByteArray) (g : Gly) (w : World)
    (H : ∀ w', Below w.heap.size w w' → Calls Try.prog 16 #[.agg #[.slice x n c, .slice y m d, .int .i64 q0, .int .i64 q1, .int .i64 q2, .int .i64 q3, .int .i64 q4, .int .i64 q5, .int .i64 q6, .int .i64 q7, .int .i64 q8, .int .i64 q9, .int .i64 q10, .int .i64 q11, .int .i64 q12, .int .i64 q13, .int .i64 q14, .int .i64 q15, .int .i64 q16, .int .i64 q17, .int .i64 q18, .int .i64 q19], .string s] w' (Gives (.tuple #[.agg #[.string ⟨#[]⟩, .int .i64 0, .int .i64 0, .int .i64 0, .int .i64 0, .int .i64 0], .bool false]) w'))
    (H' : ∀ w', Below w.heap.size w w' → Calls Try.prog 16 #[.agg #[.slice x n c, .slice y m d, .int .i64 q0, .int .i64 q1, .int .i64 q2, .int .i64 q3, .int .i64 q4, .int .i64 q5, .int .i64 q6, .int .i64 q7, .int .i64 q8, .int .i64 q9, .int .i64 q10, .int .i64 q11, .int .i64 q12, .int .i64 q13, .int .i64 q14, .int .i64 q15, .int .i64 q16, .int .i64 q17, .int .i64 q18, .int .i64 q19], .string ⟨#[63]⟩] w' (Gives (.tuple #[.agg #[.string g.name, .int .i64 g.w, .int .i64 g.h, .int .i64 g.d, .int .i64 g.it, .int .i64 g.at_], .bool true]) w')) :
    Calls Try.prog 20 #[.agg #[.slice x n c, .slice y m d, .int .i64 q0, .int .i64 q1, .int .i64 q2, .int .i64 q3, .int .i64 q4, .int .i64 q5, .int .i64 q6, .int .i64 q7, .int .i64 q8, .int .i64 q9, .int .i64 q10, .int .i64 q11, .int .i64 q12, .int .i64 q13, .int .i64 q14, .int .i64 q15, .int .i64 q16, .int .i64 q17, .int .i64 q18, .int .i64 q19], .string s] w (Gives (.agg #[.string g.name, .int .i64 g.w, .int .i64 g.h, .int .i64 g.d, .int .i64 g.it, .int .i64 g.at_]) w) := by
  have H1 := Lib.hid H
  have H2 := Lib.hid H'
  clear H H'
  go_enter Try.func20, Try.ntmps20
  have hS := own_start w
  have tok1 : True := trivial
  go_wp2_with (first
    | (refine own_unguard (by rfl) ?_)
    | (go_at_call 16; have _t := tok1; refine own_calls hS (H1.out _ hS.below) ?_; clear hS tok1; (try clear ww); intro ww hS)
    | (go_at_call 16; refine own_calls hS (H2.out _ hS.below) ?_; clear hS; (try clear ww); intro ww hS)
    | (refine own_load1 rfl _ _ rfl rfl hS (by first | exact at0 | exact at1 | exact at2 | exact at3 | exact at4 | exact at5 | exact at6 | exact at7 | exact at8) (by first | exact ot_int | exact ot_string) (by first | rfl | assumption) ?_)
    | (refine own_load rfl _ _ rfl rfl hS (by first | exact at0 | exact at1 | exact at2 | exact at3 | exact at4 | exact at5 | exact at6 | exact at7 | exact at8) (by first | exact rt_font | exact rt_glyph) ?_)
    | (refine own_load_old rfl _ _ rfl rfl hS (by assumption) (by first | exact List.not_mem_nil | assumption) (by first | exact rt_font | exact rt_glyph) ?_)
    | (refine own_load_has rfl _ _ rfl rfl hS (by assumption) (by first | exact List.not_mem_nil | assumption) (by first | exact rt_font | exact rt_glyph) ?_)
    | (refine own_load1_old rfl _ _ rfl rfl hS (by assumption) (by first | exact List.not_mem_nil | assumption) (by first | exact ot_int | exact ot_string) ?_)
    | (refine own_load1_has rfl _ _ rfl rfl hS (by assumption) (by first | exact List.not_mem_nil | assumption) (by first | exact ot_int | exact ot_string) (by first | rfl | assumption) ?_)
    | (refine own_box rfl _ _ rfl rfl hS ?_; clear hS; (try clear ww); intro bb ww hS)
    | (refine own_alloc rfl _ rfl hS (by first | exact zt_glyph) ?_; clear hS; (try clear ww); intro bb ww hS)
    | (refine own_store rfl _ _ _ rfl rfl rfl hS (by first | exact at0 | exact at1 | exact at2 | exact at3 | exact at4 | exact at5 | exact at6 | exact at7 | exact at8) (by first | exact rt_font | exact rt_glyph) (by rfl) (by rfl) ?_; clear hS; (try clear ww); intro ww hS; (try simp only at hS); (try simp only [List.set_cons_succ] at hS); (try simp only [List.set_cons_zero] at hS))
    | (refine own_store1 rfl _ _ _ rfl rfl rfl rfl hS (by first | exact at0 | exact at1 | exact at2 | exact at3 | exact at4 | exact at5 | exact at6 | exact at7 | exact at8) (by first | exact ot_int | exact ot_string) (by simp) ?_; clear hS; (try clear ww); intro ww hS; (try simp only at hS); (try simp only [List.set_cons_succ] at hS); (try simp only [List.set_cons_zero] at hS); (try simp only [Act.eval] at hS); (try simp only [Array.getD_eq_getD_getElem?] at hS); (try simp only [List.getElem?_toArray] at hS); (try simp only [List.getElem?_cons_succ] at hS); (try simp only [List.getElem?_cons_zero] at hS); (try simp only [Option.getD_some] at hS)))
  have hc := (hS.get at2).cell
  refine bodyPost_ret (v := .agg #[.string g.name, .int .i64 g.w, .int .i64 g.h, .int .i64 g.d, .int .i64 g.it, .int .i64 g.at_]) (by simp [results, Try.results20, go_sem, hc]) rfl (own_gives hS)

set_option maxHeartbeats 4000000 in
set_option maxRecDepth 100000 in
theorem ref05_Pick_three (x y : Option Addr) (n c m d : Nat) (q0 q1 q2 q3 q4 q5 q6 q7 q8 q9 q10 q11 q12 q13 q14 q15 q16 q17 q18 q19 : Int) (s : ByteArray) (w : World)
    (H : ∀ w', Below w.heap.size w w' → Calls Try.prog 16 #[.agg #[.slice x n c, .slice y m d, .int .i64 q0, .int .i64 q1, .int .i64 q2, .int .i64 q3, .int .i64 q4, .int .i64 q5, .int .i64 q6, .int .i64 q7, .int .i64 q8, .int .i64 q9, .int .i64 q10, .int .i64 q11, .int .i64 q12, .int .i64 q13, .int .i64 q14, .int .i64 q15, .int .i64 q16, .int .i64 q17, .int .i64 q18, .int .i64 q19], .string s] w' (Gives (.tuple #[.agg #[.string ⟨#[]⟩, .int .i64 0, .int .i64 0, .int .i64 0, .int .i64 0, .int .i64 0], .bool false]) w'))
    (H' : ∀ w', Below w.heap.size w w' → Calls Try.prog 16 #[.agg #[.slice x n c, .slice y m d, .int .i64 q0, .int .i64 q1, .int .i64 q2, .int .i64 q3, .int .i64 q4, .int .i64 q5, .int .i64 q6, .int .i64 q7, .int .i64 q8, .int .i64 q9, .int .i64 q10, .int .i64 q11, .int .i64 q12, .int .i64 q13, .int .i64 q14, .int .i64 q15, .int .i64 q16, .int .i64 q17, .int .i64 q18, .int .i64 q19], .string ⟨#[63]⟩] w' (Gives (.tuple #[.agg #[.string ⟨#[]⟩, .int .i64 0, .int .i64 0, .int .i64 0, .int .i64 0, .int .i64 0], .bool false]) w')) :
    Calls Try.prog 20 #[.agg #[.slice x n c, .slice y m d, .int .i64 q0, .int .i64 q1, .int .i64 q2, .int .i64 q3, .int .i64 q4, .int .i64 q5, .int .i64 q6, .int .i64 q7, .int .i64 q8, .int .i64 q9, .int .i64 q10, .int .i64 q11, .int .i64 q12, .int .i64 q13, .int .i64 q14, .int .i64 q15, .int .i64 q16, .int .i64 q17, .int .i64 q18, .int .i64 q19], .string s] w (Gives (.agg #[.string s, .int .i64 0, .int .i64 0, .int .i64 0, .int .i64 0, .int .i64 0]) w) := by
  have H1 := Lib.hid H
  have H2 := Lib.hid H'
  clear H H'
  go_enter Try.func20, Try.ntmps20
  have hS := own_start w
  have tok1 : True := trivial
  go_wp2_with (first
    | (refine own_unguard (by rfl) ?_)
    | (go_at_call 16; have _t := tok1; refine own_calls hS (H1.out _ hS.below) ?_; clear hS tok1; (try clear ww); intro ww hS)
    | (go_at_call 16; refine own_calls hS (H2.out _ hS.below) ?_; clear hS; (try clear ww); intro ww hS)
    | (refine own_load1 rfl _ _ rfl rfl hS (by first | exact at0 | exact at1 | exact at2 | exact at3 | exact at4 | exact at5 | exact at6 | exact at7 | exact at8) (by first | exact ot_int | exact ot_string) (by first | rfl | assumption) ?_)
    | (refine own_load rfl _ _ rfl rfl hS (by first | exact at0 | exact at1 | exact at2 | exact at3 | exact at4 | exact at5 | exact at6 | exact at7 | exact at8) (by first | exact rt_font | exact rt_glyph) ?_)
    | (refine own_load_old rfl _ _ rfl rfl hS (by assumption) (by first | exact List.not_mem_nil | assumption) (by first | exact rt_font | exact rt_glyph) ?_)
    | (refine own_load_has rfl _ _ rfl rfl hS (by assumption) (by first | exact List.not_mem_nil | assumption) (by first | exact rt_font | exact rt_glyph) ?_)
    | (refine own_load1_old rfl _ _ rfl rfl hS (by assumption) (by first | exact List.not_mem_nil | assumption) (by first | exact ot_int | exact ot_string) ?_)
    | (refine own_load1_has rfl _ _ rfl rfl hS (by assumption) (by first | exact List.not_mem_nil | assumption) (by first | exact ot_int | exact ot_string) (by first | rfl | assumption) ?_)
    | (refine own_box rfl _ _ rfl rfl hS ?_; clear hS; (try clear ww); intro bb ww hS)
    | (refine own_alloc rfl _ rfl hS (by first | exact zt_glyph) ?_; clear hS; (try clear ww); intro bb ww hS)
    | (refine own_store rfl _ _ _ rfl rfl rfl hS (by first | exact at0 | exact at1 | exact at2 | exact at3 | exact at4 | exact at5 | exact at6 | exact at7 | exact at8) (by first | exact rt_font | exact rt_glyph) (by rfl) (by rfl) ?_; clear hS; (try clear ww); intro ww hS; (try simp only at hS); (try simp only [List.set_cons_succ] at hS); (try simp only [List.set_cons_zero] at hS))
    | (refine own_store1 rfl _ _ _ rfl rfl rfl rfl hS (by first | exact at0 | exact at1 | exact at2 | exact at3 | exact at4 | exact at5 | exact at6 | exact at7 | exact at8) (by first | exact ot_int | exact ot_string) (by simp) ?_; clear hS; (try clear ww); intro ww hS; (try simp only at hS); (try simp only [List.set_cons_succ] at hS); (try simp only [List.set_cons_zero] at hS); (try simp only [Act.eval] at hS); (try simp only [Array.getD_eq_getD_getElem?] at hS); (try simp only [List.getElem?_toArray] at hS); (try simp only [List.getElem?_cons_succ] at hS); (try simp only [List.getElem?_cons_zero] at hS); (try simp only [Option.getD_some] at hS)))
  have hc := (hS.get at2).cell
  refine bodyPost_ret (v := .agg #[.string s, .int .i64 0, .int .i64 0, .int .i64 0, .int .i64 0, .int .i64 0]) (by simp [results, Try.results20, go_sem, hc]) rfl (own_gives hS)

theorem ref05_Pick_calls (x y : Option Addr) (n c m d : Nat) (q0 q1 q2 q3 q4 q5 q6 q7 q8 q9 q10 q11 q12 q13 q14 q15 q16 q17 q18 q19 : Int) (gs : List Gly) (s : ByteArray) (w : World) (hn : gs.length ≤ 1000000) (h : GlysAt w (.slice x n c) gs) :
    Calls Try.prog 20 #[.agg #[.slice x n c, .slice y m d, .int .i64 q0, .int .i64 q1, .int .i64 q2, .int .i64 q3, .int .i64 q4, .int .i64 q5, .int .i64 q6, .int .i64 q7, .int .i64 q8, .int .i64 q9, .int .i64 q10, .int .i64 q11, .int .i64 q12, .int .i64 q13, .int .i64 q14, .int .i64 q15, .int .i64 q16, .int .i64 q17, .int .i64 q18, .int .i64 q19], .string s] w (Gives (.agg #[.string (pickG gs s).name, .int .i64 (pickG gs s).w, .int .i64 (pickG gs s).h, .int .i64 (pickG gs s).d, .int .i64 (pickG gs s).it, .int .i64 (pickG gs s).at_]) w) := by
  have HC := fun (w' : World) (s' : ByteArray) (hb : Below w.heap.size w w') => ref05_Find_calls (.slice x n c) (.slice y m d) (.int .i64 q0) (.int .i64 q1) (.int .i64 q2) (.int .i64 q3) (.int .i64 q4) (.int .i64 q5) (.int .i64 q6) (.int .i64 q7) (.int .i64 q8) (.int .i64 q9) (.int .i64 q10) (.int .i64 q11) (.int .i64 q12) (.int .i64 q13) (.int .i64 q14) (.int .i64 q15) (.int .i64 q16) (.int .i64 q17) (.int .i64 q18) (.int .i64 q19) gs s' w' hn (h.below hb)
  cases hf : findG gs s with
  | some g =>
    rw [pickG_one g hf]
    exact ref05_Pick_one x y n c m d q0 q1 q2 q3 q4 q5 q6 q7 q8 q9 q10 q11 q12 q13 q14 q15 q16 q17 q18 q19 s g w (fun w' hb => by have := HC w' s hb; rw [hf] at this; exact this)
  | none =>
    cases hq : findG gs ⟨#[63]⟩ with
    | some g =>
      rw [pickG_two g hf hq]
      exact ref05_Pick_two x y n c m d q0 q1 q2 q3 q4 q5 q6 q7 q8 q9 q10 q11 q12 q13 q14 q15 q16 q17 q18 q19 s g w (fun w' hb => by have := HC w' s hb; rw [hf] at this; exact this) (fun w' hb => by have := HC w' ⟨#[63]⟩ hb; rw [hq] at this; exact this)
    | none =>
      rw [pickG_three hf hq]
      exact ref05_Pick_three x y n c m d q0 q1 q2 q3 q4 q5 q6 q7 q8 q9 q10 q11 q12 q13 q14 q15 q16 q17 q18 q19 s w (fun w' hb => by have := HC w' s hb; rw [hf] at this; exact this) (fun w' hb => by have := HC w' ⟨#[63]⟩ hb; rw [hq] at this; exact this)

end Go.Proofs.Ytgknameejoalnaa
