/- Texts Inn, Sim, Pick. -/
import Derived.Test.YtdbcdjiclkmknaaJ09
import Derived.Test.YtdbcdjiclkmknaaJ06
import Derived.WalkMore
import Derived.Test.YtdbcdjiclkmknaaJ01
namespace Go.Proofs.Ytdbcdjiclkmknaa
open Go.RowKit

attribute [local irreducible] wpQuiet wpG wpP wpK wpList Code.wp Calls

/-- A box is at 0, 0. -/
def atO : (n : Nat) → Bx n → Bool
  | 0, b => b.elim
  | _ + 1, b => decide (b.1.x = 0) && decide (b.1.y = 0)
/-- The glyph of a simple box. -/
def innerS : (n : Nat) → Bx n → Option (Σ m, Bx (m + 1))
  | 0, b => b.elim
  | n + 1, (a, ks) => if a.kind = 1 then some ⟨n, (a, ks)⟩ else if a.kind = 3 then (match ks with | [k] => if atO n k = true then innerS n k else none | _ => none) else none
theorem inner_glyph {n : Nat} {a : Hd} {ks : List (Bx n)} (h : a.kind = 1) : innerS (n + 1) (a, ks) = some ⟨n, (a, ks)⟩ := by unfold innerS; rw [if_pos h]
theorem inner_kind {n : Nat} {a : Hd} {ks : List (Bx n)} (h1 : a.kind ≠ 1) (h3 : a.kind ≠ 3) : innerS (n + 1) (a, ks) = none := by unfold innerS; rw [if_neg h1, if_neg h3]
theorem inner_len {n : Nat} {a : Hd} {ks : List (Bx n)} (h1 : a.kind ≠ 1) (h : ks.length ≠ 1) : innerS (n + 1) (a, ks) = none := by
  unfold innerS
  rw [if_neg h1]
  split
  · split
    · exact absurd rfl h
    · rfl
  · rfl
theorem inner_off {n : Nat} {a : Hd} {k : Bx n} (h1 : a.kind ≠ 1) (h : atO n k = false) : innerS (n + 1) (a, [k]) = none := by
  unfold innerS
  rw [if_neg h1]
  split
  · simp [h]
  · rfl
theorem inner_down {n : Nat} {a : Hd} {k : Bx n} (h3 : a.kind = 3) (h : atO n k = true) : innerS (n + 1) (a, [k]) = innerS n k := by
  unfold innerS
  rw [if_neg (by omega), if_pos h3]
  simp only [h, if_true]
  cases n <;> rfl
/-- The cells are the box, whose lists lie where P says. -/
@[reducible] def RepIn (P : Nat → Prop) (w : World) (n : Nat) (b : Bx n) (cs : List Value) : Prop := RepG (fun k _ => P k) P w n b cs
theorem repIn_out {P : Nat → Prop} {w : World} {n : Nat} {a : Hd} {kids : List (Bx n)} {cs : List Value} (h : RepIn P w (n + 1) (a, kids) cs) : ∃ kx kc sx sc, cs = a.cells (.slice kx kids.length kc) (.slice sx a.src.length sc) ∧ kids.length ≤ maxLen ∧ ∀ i kid, kids[i]? = some kid → ∃ k o css, kx = some ⟨k, o, none⟩ ∧ P k ∧ w.rangeAt k (o + i * 11) css ∧ RepIn P w n kid css := by
  obtain ⟨kx, kc, sx, sc, h1, _, h3, _, _, h6⟩ := h
  exact ⟨kx, kc, sx, sc, h1, h3, h6⟩
/-- What innermost returns: a pointer to the glyph (which lies in block K, or where P says), or none. -/
def InnerAt (P : Nat → Prop) (K : Nat) (w : World) (r : Option (Σ m, Bx (m + 1))) (v : Value) : Prop :=
  match r with
  | none => v = .pointer none
  | some g => ∃ k o cs, v = .pointer (some ⟨k, o, none⟩) ∧ (k = K ∨ P k) ∧ w.rangeAt k o cs ∧ RepIn P w (g.1 + 1) g.2 cs
/-- Where the loop stands: the pointer is that of a box of so many levels, whose glyph is that of the first. -/
def InnLoop (P : Nat → Prop) (K : Nat) (w : World) (N : Nat) (B : Bx N) (n : Nat) (v : Value) (wr : World) : Prop := ∃ (b : Bx n) (k o : Nat) (cs : List Value), v = .pointer (some ⟨k, o, none⟩) ∧ (k = K ∨ P k) ∧ w.rangeAt k o cs ∧ RepIn P w n b cs ∧ innerS n b = innerS N B ∧ Own [] w [] wr

set_option maxHeartbeats 8000000 in
set_option maxRecDepth 100000 in
theorem innermost_calls (P : Nat → Prop) (N : Nat) (B : Bx N) (cs : List Value) (K o : Nat) (w : World) (hr : w.rangeAt K o cs) (hR : RepIn P w N B cs) :
    Calls Try.prog 43 #[.pointer (some ⟨K, o, none⟩)] w (fun e w' => ∃ v, e = .returned v ∧ InnerAt P K w (innerS N B) v ∧ Below w.heap.size w w') := by
  go_enter Try.func43, Try.ntmps43
  have hS := own_start w
  go_wp2_with (first | (refine own_unguard (by rfl) ?_) | (refine w_ld rfl _ rfl (by rfl) (by first | exact rd_1 (by repeat constructor) (by first | rfl | assumption) | exact rd_w (by repeat constructor) (by rfl) | exact rd_o (by assumption) (by rfl) (by first | exact nmn | assumption | simp) | exact rd_h (by assumption) (by rfl) (by first | exact nmn | assumption | simp) | exact rd_1o (by assumption) (by first | exact nmn | assumption | simp) | exact rd_1h (by assumption) (by first | rfl | assumption) (by first | exact nmn | assumption | simp)) hS ?_) | (refine own_box rfl _ _ rfl (by rfl) hS ?_; clear hS; (try clear ww); intro bb ww hS) | (refine w_st rfl _ _ rfl (by rfl) (by rfl) (by repeat constructor) (by rfl) (by rfl) (by first | rfl | assumption) hS ?_; clear hS; (try clear ww); intro ww hS) | (refine w_s1 rfl _ _ rfl (by rfl) (by repeat constructor) (by first | exact .c | exact .t rfl) (by rfl) (by repeat constructor) hS ?_; clear hS; (try clear ww); intro ww hS))
  go_step3
  go_wp2_with (first | (refine own_unguard (by rfl) ?_) | (refine w_ld rfl _ rfl (by rfl) (by first | exact rd_1 (by repeat constructor) (by first | rfl | assumption) | exact rd_w (by repeat constructor) (by rfl) | exact rd_o (by assumption) (by rfl) (by first | exact nmn | assumption | simp) | exact rd_h (by assumption) (by rfl) (by first | exact nmn | assumption | simp) | exact rd_1o (by assumption) (by first | exact nmn | assumption | simp) | exact rd_1h (by assumption) (by first | rfl | assumption) (by first | exact nmn | assumption | simp)) hS ?_) | (refine own_box rfl _ _ rfl (by rfl) hS ?_; clear hS; (try clear ww); intro bb ww hS) | (refine w_st rfl _ _ rfl (by rfl) (by rfl) (by repeat constructor) (by rfl) (by rfl) (by first | rfl | assumption) hS ?_; clear hS; (try clear ww); intro ww hS) | (refine w_s1 rfl _ _ rfl (by rfl) (by repeat constructor) (by first | exact .c | exact .t rfl) (by rfl) (by repeat constructor) hS ?_; clear hS; (try clear ww); intro ww hS))
  go_step3
  go_wp2_with (first | (refine own_unguard (by rfl) ?_) | (refine w_ld rfl _ rfl (by rfl) (by first | exact rd_1 (by repeat constructor) (by first | rfl | assumption) | exact rd_w (by repeat constructor) (by rfl) | exact rd_o (by assumption) (by rfl) (by first | exact nmn | assumption | simp) | exact rd_h (by assumption) (by rfl) (by first | exact nmn | assumption | simp) | exact rd_1o (by assumption) (by first | exact nmn | assumption | simp) | exact rd_1h (by assumption) (by first | rfl | assumption) (by first | exact nmn | assumption | simp)) hS ?_) | (refine own_box rfl _ _ rfl (by rfl) hS ?_; clear hS; (try clear ww); intro bb ww hS) | (refine w_st rfl _ _ rfl (by rfl) (by rfl) (by repeat constructor) (by rfl) (by rfl) (by first | rfl | assumption) hS ?_; clear hS; (try clear ww); intro ww hS) | (refine w_s1 rfl _ _ rfl (by rfl) (by repeat constructor) (by first | exact .c | exact .t rfl) (by rfl) (by repeat constructor) hS ?_; clear hS; (try clear ww); intro ww hS))
  go_loopw [0] (fun v wr => ∃ n, InnLoop P K w N B n v wr) (fun v wr => least (fun n => InnLoop P K w N B n v wr))
  case atStart => exact ⟨N, B, K, o, cs, rfl, .inl rfl, hr, hR, rfl, hS⟩
  case round =>
    clear hS hr hR
    have hspec := least_spec hrel
    obtain ⟨T, hT⟩ : ∃ T, Hid (T = least (fun n => InnLoop P K w N B n u0 wr)) := ⟨_, rfl⟩
    rw [← hT.out] at hspec
    obtain ⟨b, k, o, cs, rfl, hkP, hrg, hrep, hin, hS⟩ := hspec
    cases T with
    | zero => exact hrep.elim
    | succ n =>
      obtain ⟨⟨kind, name, size, bw, bh, bd, bx, by_, of, src⟩, kids⟩ := b
      have HRp := Lib.hid hrep
      obtain ⟨kx, kc, sx, sc, rfl, hkl, hkids⟩ := repIn_out hrep
      have HRg := Lib.hid hrg
      have HIn := Lib.hid hin
      have c0 : w.cell? ⟨k, o, none⟩ = some (.int .i64 kind) := hrg 0 _ rfl
      have c8 : w.cell? ⟨k, o + 8, none⟩ = some (.slice kx kids.length kc) := hrg 8 _ rfl
      clear hrep hrg hin hrel
      by_cases h1 : kind = 1
      · subst h1
        go_wp2_with (first | (refine own_unguard (by rfl) ?_) | (refine w_ld rfl _ rfl (by rfl) (by first | exact rd_1 (by repeat constructor) (by first | rfl | assumption) | exact rd_w (by repeat constructor) (by rfl) | exact rd_o (by assumption) (by rfl) (by first | exact nmn | assumption | simp) | exact rd_h (by assumption) (by rfl) (by first | exact nmn | assumption | simp) | exact rd_1o (by assumption) (by first | exact nmn | assumption | simp) | exact rd_1h (by assumption) (by first | rfl | assumption) (by first | exact nmn | assumption | simp)) hS ?_) | (refine own_box rfl _ _ rfl (by rfl) hS ?_; clear hS; (try clear ww); intro bb ww hS) | (refine w_st rfl _ _ rfl (by rfl) (by rfl) (by repeat constructor) (by rfl) (by rfl) (by first | rfl | assumption) hS ?_; clear hS; (try clear ww); intro ww hS) | (refine w_s1 rfl _ _ rfl (by rfl) (by repeat constructor) (by first | exact .c | exact .t rfl) (by rfl) (by repeat constructor) hS ?_; clear hS; (try clear ww); intro ww hS))
        go_ret
        exact ⟨_, rfl, by rw [← HIn.out, inner_glyph rfl]; exact ⟨k, o, _, rfl, hkP, HRg.out, HRp.out⟩, hS.below⟩
      · have d1 : decide (kind = 1) = false := decide_eq_false h1
        by_cases h3 : kind = 3
        · subst h3
          by_cases hl : kids.length = 1
          · obtain ⟨kid, rfl⟩ := List.length_eq_one_iff.1 hl
            obtain ⟨k2, o2, css, rfl, hP2, hr2, hp2⟩ := hkids 0 kid rfl
            rw [Nat.zero_mul, Nat.add_zero] at hr2
            cases n with
            | zero => exact kid.elim
            | succ n =>
              obtain ⟨⟨kind2, name2, size2, bw2, bh2, bd2, x2, y2, of2, src2⟩, kids2⟩ := kid
              obtain ⟨_, _, _, _, rfl, _⟩ := repIn_out hp2
              have e6 : w.cell? ⟨k2, o2 + 6, none⟩ = some (.int .i64 x2) := hr2 6 _ rfl
              have e7 : w.cell? ⟨k2, o2 + 7, none⟩ = some (.int .i64 y2) := hr2 7 _ rfl
              have HR2 := Lib.hid hr2
              have HP2 := Lib.hid hp2
              clear hr2 hp2 hkids
              by_cases hx : x2 = 0
              · subst hx
                by_cases hy : y2 = 0
                · subst hy
                  go_wp2_with (first | (refine own_unguard (by rfl) ?_) | (refine w_ld rfl _ rfl (by rfl) (by first | exact rd_1 (by repeat constructor) (by first | rfl | assumption) | exact rd_w (by repeat constructor) (by rfl) | exact rd_o (by assumption) (by rfl) (by first | exact nmn | assumption | simp) | exact rd_h (by assumption) (by rfl) (by first | exact nmn | assumption | simp) | exact rd_1o (by assumption) (by first | exact nmn | assumption | simp) | exact rd_1h (by assumption) (by first | rfl | assumption) (by first | exact nmn | assumption | simp)) hS ?_) | (refine own_box rfl _ _ rfl (by rfl) hS ?_; clear hS; (try clear ww); intro bb ww hS) | (refine w_st rfl _ _ rfl (by rfl) (by rfl) (by repeat constructor) (by rfl) (by rfl) (by first | rfl | assumption) hS ?_; clear hS; (try clear ww); intro ww hS) | (refine w_s1 rfl _ _ rfl (by rfl) (by repeat constructor) (by first | exact .c | exact .t rfl) (by rfl) (by repeat constructor) hS ?_; clear hS; (try clear ww); intro ww hS))
                  go_roundw
                  case rel => exact ⟨_, _, k2, o2, _, rfl, .inr hP2, HR2.out, HP2.out, by rw [← HIn.out, inner_down rfl (by simp [atO])], hS⟩
                  case measure => exact Nat.lt_of_le_of_lt (least_le ⟨_, k2, o2, _, rfl, .inr hP2, HR2.out, HP2.out, by rw [← HIn.out, inner_down rfl (by simp [atO])], hS⟩) (by rw [← hT.out]; exact Nat.lt_succ_self _)
                · have dy : decide (y2 = 0) = false := decide_eq_false hy
                  go_wp2_with (first | (refine own_unguard (by rfl) ?_) | (refine w_ld rfl _ rfl (by rfl) (by first | exact rd_1 (by repeat constructor) (by first | rfl | assumption) | exact rd_w (by repeat constructor) (by rfl) | exact rd_o (by assumption) (by rfl) (by first | exact nmn | assumption | simp) | exact rd_h (by assumption) (by rfl) (by first | exact nmn | assumption | simp) | exact rd_1o (by assumption) (by first | exact nmn | assumption | simp) | exact rd_1h (by assumption) (by first | rfl | assumption) (by first | exact nmn | assumption | simp)) hS ?_) | (refine own_box rfl _ _ rfl (by rfl) hS ?_; clear hS; (try clear ww); intro bb ww hS) | (refine w_st rfl _ _ rfl (by rfl) (by rfl) (by repeat constructor) (by rfl) (by rfl) (by first | rfl | assumption) hS ?_; clear hS; (try clear ww); intro ww hS) | (refine w_s1 rfl _ _ rfl (by rfl) (by repeat constructor) (by first | exact .c | exact .t rfl) (by rfl) (by repeat constructor) hS ?_; clear hS; (try clear ww); intro ww hS))
                  go_ret
                  exact ⟨_, rfl, by rw [← HIn.out, inner_off (show (3 : Int) ≠ 1 by decide) (by simp [atO, hy])]; rfl, hS.below⟩
              · have dx : decide (x2 = 0) = false := decide_eq_false hx
                go_wp2_with (first | (refine own_unguard (by rfl) ?_) | (refine w_ld rfl _ rfl (by rfl) (by first | exact rd_1 (by repeat constructor) (by first | rfl | assumption) | exact rd_w (by repeat constructor) (by rfl) | exact rd_o (by assumption) (by rfl) (by first | exact nmn | assumption | simp) | exact rd_h (by assumption) (by rfl) (by first | exact nmn | assumption | simp) | exact rd_1o (by assumption) (by first | exact nmn | assumption | simp) | exact rd_1h (by assumption) (by first | rfl | assumption) (by first | exact nmn | assumption | simp)) hS ?_) | (refine own_box rfl _ _ rfl (by rfl) hS ?_; clear hS; (try clear ww); intro bb ww hS) | (refine w_st rfl _ _ rfl (by rfl) (by rfl) (by repeat constructor) (by rfl) (by rfl) (by first | rfl | assumption) hS ?_; clear hS; (try clear ww); intro ww hS) | (refine w_s1 rfl _ _ rfl (by rfl) (by repeat constructor) (by first | exact .c | exact .t rfl) (by rfl) (by repeat constructor) hS ?_; clear hS; (try clear ww); intro ww hS))
                go_ret
                exact ⟨_, rfl, by rw [← HIn.out, inner_off (show (3 : Int) ≠ 1 by decide) (by simp [atO, hx])]; rfl, hS.below⟩
          · have dl : decide ((kids.length : Int) = 1) = false := decide_eq_false (by omega)
            have hNn := Lib.hid hl
            clear hkids
            go_wp2_with (first | (refine own_unguard (by rfl) ?_) | (refine w_ld rfl _ rfl (by rfl) (by first | exact rd_1 (by repeat constructor) (by first | rfl | assumption) | exact rd_w (by repeat constructor) (by rfl) | exact rd_o (by assumption) (by rfl) (by first | exact nmn | assumption | simp) | exact rd_h (by assumption) (by rfl) (by first | exact nmn | assumption | simp) | exact rd_1o (by assumption) (by first | exact nmn | assumption | simp) | exact rd_1h (by assumption) (by first | rfl | assumption) (by first | exact nmn | assumption | simp)) hS ?_) | (refine own_box rfl _ _ rfl (by rfl) hS ?_; clear hS; (try clear ww); intro bb ww hS) | (refine w_st rfl _ _ rfl (by rfl) (by rfl) (by repeat constructor) (by rfl) (by rfl) (by first | rfl | assumption) hS ?_; clear hS; (try clear ww); intro ww hS) | (refine w_s1 rfl _ _ rfl (by rfl) (by repeat constructor) (by first | exact .c | exact .t rfl) (by rfl) (by repeat constructor) hS ?_; clear hS; (try clear ww); intro ww hS))
            go_ret
            exact ⟨_, rfl, by rw [← HIn.out, inner_len (show (3 : Int) ≠ 1 by decide) hNn.out]; rfl, hS.below⟩
        · have d3 : decide (kind = 3) = false := decide_eq_false h3
          clear hkids
          go_wp2_with (first | (refine own_unguard (by rfl) ?_) | (refine w_ld rfl _ rfl (by rfl) (by first | exact rd_1 (by repeat constructor) (by first | rfl | assumption) | exact rd_w (by repeat constructor) (by rfl) | exact rd_o (by assumption) (by rfl) (by first | exact nmn | assumption | simp) | exact rd_h (by assumption) (by rfl) (by first | exact nmn | assumption | simp) | exact rd_1o (by assumption) (by first | exact nmn | assumption | simp) | exact rd_1h (by assumption) (by first | rfl | assumption) (by first | exact nmn | assumption | simp)) hS ?_) | (refine own_box rfl _ _ rfl (by rfl) hS ?_; clear hS; (try clear ww); intro bb ww hS) | (refine w_st rfl _ _ rfl (by rfl) (by rfl) (by repeat constructor) (by rfl) (by rfl) (by first | rfl | assumption) hS ?_; clear hS; (try clear ww); intro ww hS) | (refine w_s1 rfl _ _ rfl (by rfl) (by repeat constructor) (by first | exact .c | exact .t rfl) (by rfl) (by repeat constructor) hS ?_; clear hS; (try clear ww); intro ww hS))
          go_ret
          exact ⟨_, rfl, by rw [← HIn.out, inner_kind h1 h3]; rfl, hS.below⟩

end Go.Proofs.Ytdbcdjiclkmknaa
namespace Go.Proofs.Ytdbcdjiclkmknaa
open Go.RowKit

attribute [local irreducible] wpQuiet wpG wpP wpK wpList Code.wp Calls

end Go.Proofs.Ytdbcdjiclkmknaa
namespace Go.Proofs.Ytdbcdjiclkmknaa
open Go.RowKit

attribute [local irreducible] wpQuiet wpList Code.wp

theorem GlysAt.below {w w' : World} {v : Value} {gs : List Gly} (h : GlysAt w v gs) (hb : Below w.heap.size w w') : GlysAt w' v gs := by
  rcases h with h | ⟨b, o, c, rfl, h⟩
  · exact .inl h
  · refine .inr ⟨b, o, c, rfl, fun i g hi => ?_⟩
    obtain ⟨h0, h1, h2, h3, h4, h5⟩ := h i g hi
    have hl : b < w.heap.size := World.block_lt_of_cell? w _ h0
    exact ⟨(hb.cell hl).trans h0, (hb.cell hl).trans h1, (hb.cell hl).trans h2, (hb.cell hl).trans h3, (hb.cell hl).trans h4, (hb.cell hl).trans h5⟩

/-- What Pick returns. -/
def pickG (gs : List Gly) (s : ByteArray) : Gly :=
  match findG gs s with
  | some g => g
  | none => match findG gs ⟨#[63]⟩ with
    | some g => g
    | none => { name := s, w := 0, h := 0, d := 0, it := 0, at_ := 0 }

theorem pickG_one {gs : List Gly} {s : ByteArray} (g : Gly) (h : findG gs s = some g) : pickG gs s = g := by unfold pickG; rw [h]
theorem pickG_two {gs : List Gly} {s : ByteArray} (g : Gly) (h : findG gs s = none) (h2 : findG gs ⟨#[63]⟩ = some g) : pickG gs s = g := by unfold pickG; rw [h]; simp only [h2]
theorem pickG_three {gs : List Gly} {s : ByteArray} (h : findG gs s = none) (h2 : findG gs ⟨#[63]⟩ = none) : pickG gs s = { name := s, w := 0, h := 0, d := 0, it := 0, at_ := 0 } := by unfold pickG; rw [h]; simp only [h2]

set_option maxHeartbeats 4000000 in
set_option maxRecDepth 100000 in
theorem font_Pick_one (x y : Option Addr) (n c m d : Nat) (q0 q1 q2 q3 q4 q5 q6 q7 q8 q9 q10 q11 q12 q13 q14 q15 q16 q17 q18 q19 : Int) (s : ByteArray) (g : Gly) (w : World)
    (H : ∀ w', Below w.heap.size w w' → Calls Try.prog 62 #[.agg #[.slice x n c, .slice y m d, .int .i64 q0, .int .i64 q1, .int .i64 q2, .int .i64 q3, .int .i64 q4, .int .i64 q5, .int .i64 q6, .int .i64 q7, .int .i64 q8, .int .i64 q9, .int .i64 q10, .int .i64 q11, .int .i64 q12, .int .i64 q13, .int .i64 q14, .int .i64 q15, .int .i64 q16, .int .i64 q17, .int .i64 q18, .int .i64 q19], .string s] w' (Gives (.tuple #[.agg #[.string g.name, .int .i64 g.w, .int .i64 g.h, .int .i64 g.d, .int .i64 g.it, .int .i64 g.at_], .bool true]) w')) :
    Calls Try.prog 45 #[.agg #[.slice x n c, .slice y m d, .int .i64 q0, .int .i64 q1, .int .i64 q2, .int .i64 q3, .int .i64 q4, .int .i64 q5, .int .i64 q6, .int .i64 q7, .int .i64 q8, .int .i64 q9, .int .i64 q10, .int .i64 q11, .int .i64 q12, .int .i64 q13, .int .i64 q14, .int .i64 q15, .int .i64 q16, .int .i64 q17, .int .i64 q18, .int .i64 q19], .string s] w (Gives (.agg #[.string g.name, .int .i64 g.w, .int .i64 g.h, .int .i64 g.d, .int .i64 g.it, .int .i64 g.at_]) w) := by
  have H1 := Lib.hid H
  clear H
  go_enter Try.func45, Try.ntmps45
  have hS := own_start w
  go_wp2_with (first | (refine own_unguard (by rfl) ?_) | (go_at_call 62; refine own_calls hS (H1.out _ hS.below) ?_; clear hS; (try clear ww); intro ww hS) | (refine w_ld rfl _ rfl (by rfl) (by first | exact rd_1 (by repeat constructor) (by first | rfl | assumption) | exact rd_w (by repeat constructor) (by rfl) | exact rd_o (by assumption) (by rfl) (by first | exact nmn | assumption | simp) | exact rd_h (by assumption) (by rfl) (by first | exact nmn | assumption | simp) | exact rd_1o (by assumption) (by first | exact nmn | assumption | simp) | exact rd_1h (by assumption) (by first | rfl | assumption) (by first | exact nmn | assumption | simp)) hS ?_) | (refine own_box rfl _ _ rfl (by rfl) hS ?_; clear hS; (try clear ww); intro bb ww hS) | (refine w_al rfl rfl hS ?_; clear hS; (try clear ww); intro bb ww hS) | (refine w_st rfl _ _ rfl (by rfl) (by rfl) (by repeat constructor) (by rfl) (by rfl) (by first | rfl | assumption) hS ?_; clear hS; (try clear ww); intro ww hS) | (refine w_s1 rfl _ _ rfl (by rfl) (by repeat constructor) (by first | exact .c | exact .t rfl) (by rfl) (by repeat constructor) hS ?_; clear hS; (try clear ww); intro ww hS))
  have hc := (hS.get at1).cell
  refine bodyPost_ret (v := .agg #[.string g.name, .int .i64 g.w, .int .i64 g.h, .int .i64 g.d, .int .i64 g.it, .int .i64 g.at_]) (by simp [results, Try.results45, go_sem, hc]) rfl (own_gives hS)

set_option maxHeartbeats 4000000 in
set_option maxRecDepth 100000 in
theorem font_Pick_two (x y : Option Addr) (n c m d : Nat) (q0 q1 q2 q3 q4 q5 q6 q7 q8 q9 q10 q11 q12 q13 q14 q15 q16 q17 q18 q19 : Int) (s : ByteArray) (g : Gly) (w : World)
    (H : ∀ w', Below w.heap.size w w' → Calls Try.prog 62 #[.agg #[.slice x n c, .slice y m d, .int .i64 q0, .int .i64 q1, .int .i64 q2, .int .i64 q3, .int .i64 q4, .int .i64 q5, .int .i64 q6, .int .i64 q7, .int .i64 q8, .int .i64 q9, .int .i64 q10, .int .i64 q11, .int .i64 q12, .int .i64 q13, .int .i64 q14, .int .i64 q15, .int .i64 q16, .int .i64 q17, .int .i64 q18, .int .i64 q19], .string s] w' (Gives (.tuple #[.agg #[.string ⟨#[]⟩, .int .i64 0, .int .i64 0, .int .i64 0, .int .i64 0, .int .i64 0], .bool false]) w'))
    (H' : ∀ w', Below w.heap.size w w' → Calls Try.prog 62 #[.agg #[.slice x n c, .slice y m d, .int .i64 q0, .int .i64 q1, .int .i64 q2, .int .i64 q3, .int .i64 q4, .int .i64 q5, .int .i64 q6, .int .i64 q7, .int .i64 q8, .int .i64 q9, .int .i64 q10, .int .i64 q11, .int .i64 q12, .int .i64 q13, .int .i64 q14, .int .i64 q15, .int .i64 q16, .int .i64 q17, .int .i64 q18, .int .i64 q19], .string ⟨#[63]⟩] w' (Gives (.tuple #[.agg #[.string g.name, .int .i64 g.w, .int .i64 g.h, .int .i64 g.d, .int .i64 g.it, .int .i64 g.at_], .bool true]) w')) :
    Calls Try.prog 45 #[.agg #[.slice x n c, .slice y m d, .int .i64 q0, .int .i64 q1, .int .i64 q2, .int .i64 q3, .int .i64 q4, .int .i64 q5, .int .i64 q6, .int .i64 q7, .int .i64 q8, .int .i64 q9, .int .i64 q10, .int .i64 q11, .int .i64 q12, .int .i64 q13, .int .i64 q14, .int .i64 q15, .int .i64 q16, .int .i64 q17, .int .i64 q18, .int .i64 q19], .string s] w (Gives (.agg #[.string g.name, .int .i64 g.w, .int .i64 g.h, .int .i64 g.d, .int .i64 g.it, .int .i64 g.at_]) w) := by
  have H1 := Lib.hid H
  have H2 := Lib.hid H'
  clear H H'
  go_enter Try.func45, Try.ntmps45
  have hS := own_start w
  have tok1 : True := trivial
  go_wp2_with (first | (refine own_unguard (by rfl) ?_) | (go_at_call 62; have _t := tok1; refine own_calls hS (H1.out _ hS.below) ?_; clear hS tok1; (try clear ww); intro ww hS) | (go_at_call 62; refine own_calls hS (H2.out _ hS.below) ?_; clear hS; (try clear ww); intro ww hS) | (refine w_ld rfl _ rfl (by rfl) (by first | exact rd_1 (by repeat constructor) (by first | rfl | assumption) | exact rd_w (by repeat constructor) (by rfl) | exact rd_o (by assumption) (by rfl) (by first | exact nmn | assumption | simp) | exact rd_h (by assumption) (by rfl) (by first | exact nmn | assumption | simp) | exact rd_1o (by assumption) (by first | exact nmn | assumption | simp) | exact rd_1h (by assumption) (by first | rfl | assumption) (by first | exact nmn | assumption | simp)) hS ?_) | (refine own_box rfl _ _ rfl (by rfl) hS ?_; clear hS; (try clear ww); intro bb ww hS) | (refine w_al rfl rfl hS ?_; clear hS; (try clear ww); intro bb ww hS) | (refine w_st rfl _ _ rfl (by rfl) (by rfl) (by repeat constructor) (by rfl) (by rfl) (by first | rfl | assumption) hS ?_; clear hS; (try clear ww); intro ww hS) | (refine w_s1 rfl _ _ rfl (by rfl) (by repeat constructor) (by first | exact .c | exact .t rfl) (by rfl) (by repeat constructor) hS ?_; clear hS; (try clear ww); intro ww hS))
  have hc := (hS.get at2).cell
  refine bodyPost_ret (v := .agg #[.string g.name, .int .i64 g.w, .int .i64 g.h, .int .i64 g.d, .int .i64 g.it, .int .i64 g.at_]) (by simp [results, Try.results45, go_sem, hc]) rfl (own_gives hS)

set_option maxHeartbeats 4000000 in
set_option maxRecDepth 100000 in
theorem font_Pick_three (x y : Option Addr) (n c m d : Nat) (q0 q1 q2 q3 q4 q5 q6 q7 q8 q9 q10 q11 q12 q13 q14 q15 q16 q17 q18 q19 : Int) (s : ByteArray) (w : World)
    (H : ∀ w', Below w.heap.size w w' → Calls Try.prog 62 #[.agg #[.slice x n c, .slice y m d, .int .i64 q0, .int .i64 q1, .int .i64 q2, .int .i64 q3, .int .i64 q4, .int .i64 q5, .int .i64 q6, .int .i64 q7, .int .i64 q8, .int .i64 q9, .int .i64 q10, .int .i64 q11, .int .i64 q12, .int .i64 q13, .int .i64 q14, .int .i64 q15, .int .i64 q16, .int .i64 q17, .int .i64 q18, .int .i64 q19], .string s] w' (Gives (.tuple #[.agg #[.string ⟨#[]⟩, .int .i64 0, .int .i64 0, .int .i64 0, .int .i64 0, .int .i64 0], .bool false]) w'))
    (H' : ∀ w', Below w.heap.size w w' → Calls Try.prog 62 #[.agg #[.slice x n c, .slice y m d, .int .i64 q0, .int .i64 q1, .int .i64 q2, .int .i64 q3, .int .i64 q4, .int .i64 q5, .int .i64 q6, .int .i64 q7, .int .i64 q8, .int .i64 q9, .int .i64 q10, .int .i64 q11, .int .i64 q12, .int .i64 q13, .int .i64 q14, .int .i64 q15, .int .i64 q16, .int .i64 q17, .int .i64 q18, .int .i64 q19], .string ⟨#[63]⟩] w' (Gives (.tuple #[.agg #[.string ⟨#[]⟩, .int .i64 0, .int .i64 0, .int .i64 0, .int .i64 0, .int .i64 0], .bool false]) w')) :
    Calls Try.prog 45 #[.agg #[.slice x n c, .slice y m d, .int .i64 q0, .int .i64 q1, .int .i64 q2, .int .i64 q3, .int .i64 q4, .int .i64 q5, .int .i64 q6, .int .i64 q7, .int .i64 q8, .int .i64 q9, .int .i64 q10, .int .i64 q11, .int .i64 q12, .int .i64 q13, .int .i64 q14, .int .i64 q15, .int .i64 q16, .int .i64 q17, .int .i64 q18, .int .i64 q19], .string s] w (Gives (.agg #[.string s, .int .i64 0, .int .i64 0, .int .i64 0, .int .i64 0, .int .i64 0]) w) := by
  have H1 := Lib.hid H
  have H2 := Lib.hid H'
  clear H H'
  go_enter Try.func45, Try.ntmps45
  have hS := own_start w
  have tok1 : True := trivial
  go_wp2_with (first | (refine own_unguard (by rfl) ?_) | (go_at_call 62; have _t := tok1; refine own_calls hS (H1.out _ hS.below) ?_; clear hS tok1; (try clear ww); intro ww hS) | (go_at_call 62; refine own_calls hS (H2.out _ hS.below) ?_; clear hS; (try clear ww); intro ww hS) | (refine w_ld rfl _ rfl (by rfl) (by first | exact rd_1 (by repeat constructor) (by first | rfl | assumption) | exact rd_w (by repeat constructor) (by rfl) | exact rd_o (by assumption) (by rfl) (by first | exact nmn | assumption | simp) | exact rd_h (by assumption) (by rfl) (by first | exact nmn | assumption | simp) | exact rd_1o (by assumption) (by first | exact nmn | assumption | simp) | exact rd_1h (by assumption) (by first | rfl | assumption) (by first | exact nmn | assumption | simp)) hS ?_) | (refine own_box rfl _ _ rfl (by rfl) hS ?_; clear hS; (try clear ww); intro bb ww hS) | (refine w_al rfl rfl hS ?_; clear hS; (try clear ww); intro bb ww hS) | (refine w_st rfl _ _ rfl (by rfl) (by rfl) (by repeat constructor) (by rfl) (by rfl) (by first | rfl | assumption) hS ?_; clear hS; (try clear ww); intro ww hS) | (refine w_s1 rfl _ _ rfl (by rfl) (by repeat constructor) (by first | exact .c | exact .t rfl) (by rfl) (by repeat constructor) hS ?_; clear hS; (try clear ww); intro ww hS))
  have hc := (hS.get at2).cell
  refine bodyPost_ret (v := .agg #[.string s, .int .i64 0, .int .i64 0, .int .i64 0, .int .i64 0, .int .i64 0]) (by simp [results, Try.results45, go_sem, hc]) rfl (own_gives hS)

theorem font_Pick_calls (x y : Option Addr) (n c m d : Nat) (q0 q1 q2 q3 q4 q5 q6 q7 q8 q9 q10 q11 q12 q13 q14 q15 q16 q17 q18 q19 : Int) (gs : List Gly) (s : ByteArray) (w : World) (hn : gs.length ≤ 1000000) (h : GlysAt w (.slice x n c) gs) :
    Calls Try.prog 45 #[.agg #[.slice x n c, .slice y m d, .int .i64 q0, .int .i64 q1, .int .i64 q2, .int .i64 q3, .int .i64 q4, .int .i64 q5, .int .i64 q6, .int .i64 q7, .int .i64 q8, .int .i64 q9, .int .i64 q10, .int .i64 q11, .int .i64 q12, .int .i64 q13, .int .i64 q14, .int .i64 q15, .int .i64 q16, .int .i64 q17, .int .i64 q18, .int .i64 q19], .string s] w (Gives (.agg #[.string (pickG gs s).name, .int .i64 (pickG gs s).w, .int .i64 (pickG gs s).h, .int .i64 (pickG gs s).d, .int .i64 (pickG gs s).it, .int .i64 (pickG gs s).at_]) w) := by
  have HC := fun (w' : World) (s' : ByteArray) (hb : Below w.heap.size w w') => font_Find_calls (.slice x n c) (.slice y m d) (.int .i64 q0) (.int .i64 q1) (.int .i64 q2) (.int .i64 q3) (.int .i64 q4) (.int .i64 q5) (.int .i64 q6) (.int .i64 q7) (.int .i64 q8) (.int .i64 q9) (.int .i64 q10) (.int .i64 q11) (.int .i64 q12) (.int .i64 q13) (.int .i64 q14) (.int .i64 q15) (.int .i64 q16) (.int .i64 q17) (.int .i64 q18) (.int .i64 q19) gs s' w' hn (h.below hb)
  cases hf : findG gs s with
  | some g =>
    rw [pickG_one g hf]
    exact font_Pick_one x y n c m d q0 q1 q2 q3 q4 q5 q6 q7 q8 q9 q10 q11 q12 q13 q14 q15 q16 q17 q18 q19 s g w (fun w' hb => by have := HC w' s hb; rw [hf] at this; exact this)
  | none =>
    cases hq : findG gs ⟨#[63]⟩ with
    | some g =>
      rw [pickG_two g hf hq]
      exact font_Pick_two x y n c m d q0 q1 q2 q3 q4 q5 q6 q7 q8 q9 q10 q11 q12 q13 q14 q15 q16 q17 q18 q19 s g w (fun w' hb => by have := HC w' s hb; rw [hf] at this; exact this) (fun w' hb => by have := HC w' ⟨#[63]⟩ hb; rw [hq] at this; exact this)
    | none =>
      rw [pickG_three hf hq]
      exact font_Pick_three x y n c m d q0 q1 q2 q3 q4 q5 q6 q7 q8 q9 q10 q11 q12 q13 q14 q15 q16 q17 q18 q19 s w (fun w' hb => by have := HC w' s hb; rw [hf] at this; exact this) (fun w' hb => by have := HC w' ⟨#[63]⟩ hb; rw [hq] at this; exact this)

set_option maxHeartbeats 4000000 in
set_option maxRecDepth 100000 in
theorem ref05_Pick_one (x y : Option Addr) (n c m d : Nat) (q0 q1 q2 q3 q4 q5 q6 q7 q8 q9 q10 q11 q12 q13 q14 q15 q16 q17 q18 q19 : Int) (s : ByteArray) (g : Gly) (w : World)
    (H : ∀ w', Below w.heap.size w w' → Calls Try.prog 54 #[.agg #[.slice x n c, .slice y m d, .int .i64 q0, .int .i64 q1, .int .i64 q2, .int .i64 q3, .int .i64 q4, .int .i64 q5, .int .i64 q6, .int .i64 q7, .int .i64 q8, .int .i64 q9, .int .i64 q10, .int .i64 q11, .int .i64 q12, .int .i64 q13, .int .i64 q14, .int .i64 q15, .int .i64 q16, .int .i64 q17, .int .i64 q18, .int .i64 q19], .string s] w' (Gives (.tuple #[.agg #[.string g.name, .int .i64 g.w, .int .i64 g.h, .int .i64 g.d, .int .i64 g.it, .int .i64 g.at_], .bool true]) w')) :
    Calls Try.prog 36 #[.agg #[.slice x n c, .slice y m d, .int .i64 q0, .int .i64 q1, .int .i64 q2, .int .i64 q3, .int .i64 q4, .int .i64 q5, .int .i64 q6, .int .i64 q7, .int .i64 q8, .int .i64 q9, .int .i64 q10, .int .i64 q11, .int .i64 q12, .int .i64 q13, .int .i64 q14, .int .i64 q15, .int .i64 q16, .int .i64 q17, .int .i64 q18, .int .i64 q19], .string s] w (Gives (.agg #[.string g.name, .int .i64 g.w, .int .i64 g.h, .int .i64 g.d, .int .i64 g.it, .int .i64 g.at_]) w) := by
  have H1 := Lib.hid H
  clear H
  go_enter Try.func36, Try.ntmps36
  have hS := own_start w
  go_wp2_with (first | (refine own_unguard (by rfl) ?_) | (go_at_call 54; refine own_calls hS (H1.out _ hS.below) ?_; clear hS; (try clear ww); intro ww hS) | (refine w_ld rfl _ rfl (by rfl) (by first | exact rd_1 (by repeat constructor) (by first | rfl | assumption) | exact rd_w (by repeat constructor) (by rfl) | exact rd_o (by assumption) (by rfl) (by first | exact nmn | assumption | simp) | exact rd_h (by assumption) (by rfl) (by first | exact nmn | assumption | simp) | exact rd_1o (by assumption) (by first | exact nmn | assumption | simp) | exact rd_1h (by assumption) (by first | rfl | assumption) (by first | exact nmn | assumption | simp)) hS ?_) | (refine own_box rfl _ _ rfl (by rfl) hS ?_; clear hS; (try clear ww); intro bb ww hS) | (refine w_al rfl rfl hS ?_; clear hS; (try clear ww); intro bb ww hS) | (refine w_st rfl _ _ rfl (by rfl) (by rfl) (by repeat constructor) (by rfl) (by rfl) (by first | rfl | assumption) hS ?_; clear hS; (try clear ww); intro ww hS) | (refine w_s1 rfl _ _ rfl (by rfl) (by repeat constructor) (by first | exact .c | exact .t rfl) (by rfl) (by repeat constructor) hS ?_; clear hS; (try clear ww); intro ww hS))
  have hc := (hS.get at1).cell
  refine bodyPost_ret (v := .agg #[.string g.name, .int .i64 g.w, .int .i64 g.h, .int .i64 g.d, .int .i64 g.it, .int .i64 g.at_]) (by simp [results, Try.results36, go_sem, hc]) rfl (own_gives hS)

set_option maxHeartbeats 4000000 in
set_option maxRecDepth 100000 in
theorem ref05_Pick_two (x y : Option Addr) (n c m d : Nat) (q0 q1 q2 q3 q4 q5 q6 q7 q8 q9 q10 q11 q12 q13 q14 q15 q16 q17 q18 q19 : Int) (s : ByteArray) (g : Gly) (w : World)
    (H : ∀ w', Below w.heap.size w w' → Calls Try.prog 54 #[.agg #[.slice x n c, .slice y m d, .int .i64 q0, .int .i64 q1, .int .i64 q2, .int .i64 q3, .int .i64 q4, .int .i64 q5, .int .i64 q6, .int .i64 q7, .int .i64 q8, .int .i64 q9, .int .i64 q10, .int .i64 q11, .int .i64 q12, .int .i64 q13, .int .i64 q14, .int .i64 q15, .int .i64 q16, .int .i64 q17, .int .i64 q18, .int .i64 q19], .string s] w' (Gives (.tuple #[.agg #[.string ⟨#[]⟩, .int .i64 0, .int .i64 0, .int .i64 0, .int .i64 0, .int .i64 0], .bool false]) w'))
    (H' : ∀ w', Below w.heap.size w w' → Calls Try.prog 54 #[.agg #[.slice x n c, .slice y m d, .int .i64 q0, .int .i64 q1, .int .i64 q2, .int .i64 q3, .int .i64 q4, .int .i64 q5, .int .i64 q6, .int .i64 q7, .int .i64 q8, .int .i64 q9, .int .i64 q10, .int .i64 q11, .int .i64 q12, .int .i64 q13, .int .i64 q14, .int .i64 q15, .int .i64 q16, .int .i64 q17, .int .i64 q18, .int .i64 q19], .string ⟨#[63]⟩] w' (Gives (.tuple #[.agg #[.string g.name, .int .i64 g.w, .int .i64 g.h, .int .i64 g.d, .int .i64 g.it, .int .i64 g.at_], .bool true]) w')) :
    Calls Try.prog 36 #[.agg #[.slice x n c, .slice y m d, .int .i64 q0, .int .i64 q1, .int .i64 q2, .int .i64 q3, .int .i64 q4, .int .i64 q5, .int .i64 q6, .int .i64 q7, .int .i64 q8, .int .i64 q9, .int .i64 q10, .int .i64 q11, .int .i64 q12, .int .i64 q13, .int .i64 q14, .int .i64 q15, .int .i64 q16, .int .i64 q17, .int .i64 q18, .int .i64 q19], .string s] w (Gives (.agg #[.string g.name, .int .i64 g.w, .int .i64 g.h, .int .i64 g.d, .int .i64 g.it, .int .i64 g.at_]) w) := by
  have H1 := Lib.hid H
  have H2 := Lib.hid H'
  clear H H'
  go_enter Try.func36, Try.ntmps36
  have hS := own_start w
  have tok1 : True := trivial
  go_wp2_with (first | (refine own_unguard (by rfl) ?_) | (go_at_call 54; have _t := tok1; refine own_calls hS (H1.out _ hS.below) ?_; clear hS tok1; (try clear ww); intro ww hS) | (go_at_call 54; refine own_calls hS (H2.out _ hS.below) ?_; clear hS; (try clear ww); intro ww hS) | (refine w_ld rfl _ rfl (by rfl) (by first | exact rd_1 (by repeat constructor) (by first | rfl | assumption) | exact rd_w (by repeat constructor) (by rfl) | exact rd_o (by assumption) (by rfl) (by first | exact nmn | assumption | simp) | exact rd_h (by assumption) (by rfl) (by first | exact nmn | assumption | simp) | exact rd_1o (by assumption) (by first | exact nmn | assumption | simp) | exact rd_1h (by assumption) (by first | rfl | assumption) (by first | exact nmn | assumption | simp)) hS ?_) | (refine own_box rfl _ _ rfl (by rfl) hS ?_; clear hS; (try clear ww); intro bb ww hS) | (refine w_al rfl rfl hS ?_; clear hS; (try clear ww); intro bb ww hS) | (refine w_st rfl _ _ rfl (by rfl) (by rfl) (by repeat constructor) (by rfl) (by rfl) (by first | rfl | assumption) hS ?_; clear hS; (try clear ww); intro ww hS) | (refine w_s1 rfl _ _ rfl (by rfl) (by repeat constructor) (by first | exact .c | exact .t rfl) (by rfl) (by repeat constructor) hS ?_; clear hS; (try clear ww); intro ww hS))
  have hc := (hS.get at2).cell
  refine bodyPost_ret (v := .agg #[.string g.name, .int .i64 g.w, .int .i64 g.h, .int .i64 g.d, .int .i64 g.it, .int .i64 g.at_]) (by simp [results, Try.results36, go_sem, hc]) rfl (own_gives hS)

set_option maxHeartbeats 4000000 in
set_option maxRecDepth 100000 in
theorem ref05_Pick_three (x y : Option Addr) (n c m d : Nat) (q0 q1 q2 q3 q4 q5 q6 q7 q8 q9 q10 q11 q12 q13 q14 q15 q16 q17 q18 q19 : Int) (s : ByteArray) (w : World)
    (H : ∀ w', Below w.heap.size w w' → Calls Try.prog 54 #[.agg #[.slice x n c, .slice y m d, .int .i64 q0, .int .i64 q1, .int .i64 q2, .int .i64 q3, .int .i64 q4, .int .i64 q5, .int .i64 q6, .int .i64 q7, .int .i64 q8, .int .i64 q9, .int .i64 q10, .int .i64 q11, .int .i64 q12, .int .i64 q13, .int .i64 q14, .int .i64 q15, .int .i64 q16, .int .i64 q17, .int .i64 q18, .int .i64 q19], .string s] w' (Gives (.tuple #[.agg #[.string ⟨#[]⟩, .int .i64 0, .int .i64 0, .int .i64 0, .int .i64 0, .int .i64 0], .bool false]) w'))
    (H' : ∀ w', Below w.heap.size w w' → Calls Try.prog 54 #[.agg #[.slice x n c, .slice y m d, .int .i64 q0, .int .i64 q1, .int .i64 q2, .int .i64 q3, .int .i64 q4, .int .i64 q5, .int .i64 q6, .int .i64 q7, .int .i64 q8, .int .i64 q9, .int .i64 q10, .int .i64 q11, .int .i64 q12, .int .i64 q13, .int .i64 q14, .int .i64 q15, .int .i64 q16, .int .i64 q17, .int .i64 q18, .int .i64 q19], .string ⟨#[63]⟩] w' (Gives (.tuple #[.agg #[.string ⟨#[]⟩, .int .i64 0, .int .i64 0, .int .i64 0, .int .i64 0, .int .i64 0], .bool false]) w')) :
    Calls Try.prog 36 #[.agg #[.slice x n c, .slice y m d, .int .i64 q0, .int .i64 q1, .int .i64 q2, .int .i64 q3, .int .i64 q4, .int .i64 q5, .int .i64 q6, .int .i64 q7, .int .i64 q8, .int .i64 q9, .int .i64 q10, .int .i64 q11, .int .i64 q12, .int .i64 q13, .int .i64 q14, .int .i64 q15, .int .i64 q16, .int .i64 q17, .int .i64 q18, .int .i64 q19], .string s] w (Gives (.agg #[.string s, .int .i64 0, .int .i64 0, .int .i64 0, .int .i64 0, .int .i64 0]) w) := by
  have H1 := Lib.hid H
  have H2 := Lib.hid H'
  clear H H'
  go_enter Try.func36, Try.ntmps36
  have hS := own_start w
  have tok1 : True := trivial
  go_wp2_with (first | (refine own_unguard (by rfl) ?_) | (go_at_call 54; have _t := tok1; refine own_calls hS (H1.out _ hS.below) ?_; clear hS tok1; (try clear ww); intro ww hS) | (go_at_call 54; refine own_calls hS (H2.out _ hS.below) ?_; clear hS; (try clear ww); intro ww hS) | (refine w_ld rfl _ rfl (by rfl) (by first | exact rd_1 (by repeat constructor) (by first | rfl | assumption) | exact rd_w (by repeat constructor) (by rfl) | exact rd_o (by assumption) (by rfl) (by first | exact nmn | assumption | simp) | exact rd_h (by assumption) (by rfl) (by first | exact nmn | assumption | simp) | exact rd_1o (by assumption) (by first | exact nmn | assumption | simp) | exact rd_1h (by assumption) (by first | rfl | assumption) (by first | exact nmn | assumption | simp)) hS ?_) | (refine own_box rfl _ _ rfl (by rfl) hS ?_; clear hS; (try clear ww); intro bb ww hS) | (refine w_al rfl rfl hS ?_; clear hS; (try clear ww); intro bb ww hS) | (refine w_st rfl _ _ rfl (by rfl) (by rfl) (by repeat constructor) (by rfl) (by rfl) (by first | rfl | assumption) hS ?_; clear hS; (try clear ww); intro ww hS) | (refine w_s1 rfl _ _ rfl (by rfl) (by repeat constructor) (by first | exact .c | exact .t rfl) (by rfl) (by repeat constructor) hS ?_; clear hS; (try clear ww); intro ww hS))
  have hc := (hS.get at2).cell
  refine bodyPost_ret (v := .agg #[.string s, .int .i64 0, .int .i64 0, .int .i64 0, .int .i64 0, .int .i64 0]) (by simp [results, Try.results36, go_sem, hc]) rfl (own_gives hS)

theorem ref05_Pick_calls (x y : Option Addr) (n c m d : Nat) (q0 q1 q2 q3 q4 q5 q6 q7 q8 q9 q10 q11 q12 q13 q14 q15 q16 q17 q18 q19 : Int) (gs : List Gly) (s : ByteArray) (w : World) (hn : gs.length ≤ 1000000) (h : GlysAt w (.slice x n c) gs) :
    Calls Try.prog 36 #[.agg #[.slice x n c, .slice y m d, .int .i64 q0, .int .i64 q1, .int .i64 q2, .int .i64 q3, .int .i64 q4, .int .i64 q5, .int .i64 q6, .int .i64 q7, .int .i64 q8, .int .i64 q9, .int .i64 q10, .int .i64 q11, .int .i64 q12, .int .i64 q13, .int .i64 q14, .int .i64 q15, .int .i64 q16, .int .i64 q17, .int .i64 q18, .int .i64 q19], .string s] w (Gives (.agg #[.string (pickG gs s).name, .int .i64 (pickG gs s).w, .int .i64 (pickG gs s).h, .int .i64 (pickG gs s).d, .int .i64 (pickG gs s).it, .int .i64 (pickG gs s).at_]) w) := by
  have HC := fun (w' : World) (s' : ByteArray) (hb : Below w.heap.size w w') => ref05_Find_calls (.slice x n c) (.slice y m d) (.int .i64 q0) (.int .i64 q1) (.int .i64 q2) (.int .i64 q3) (.int .i64 q4) (.int .i64 q5) (.int .i64 q6) (.int .i64 q7) (.int .i64 q8) (.int .i64 q9) (.int .i64 q10) (.int .i64 q11) (.int .i64 q12) (.int .i64 q13) (.int .i64 q14) (.int .i64 q15) (.int .i64 q16) (.int .i64 q17) (.int .i64 q18) (.int .i64 q19) gs s' w' hn (h.below hb)
  cases hf : findG gs s with
  | some g =>
    rw [pickG_one g hf]
    exact ref05_Pick_one x y n c m d q0 q1 q2 q3 q4 q5 q6 q7 q8 q9 q10 q11 q12 q13 q14 q15 q16 q17 q18 q19 s g w (fun w' hb => by have := HC w' s hb; rw [hf] at this; exact this)
  | none =>
    cases hq : findG gs ⟨#[63]⟩ with
    | some g =>
      rw [pickG_two g hf hq]
      exact ref05_Pick_two x y n c m d q0 q1 q2 q3 q4 q5 q6 q7 q8 q9 q10 q11 q12 q13 q14 q15 q16 q17 q18 q19 s g w (fun w' hb => by have := HC w' s hb; rw [hf] at this; exact this) (fun w' hb => by have := HC w' ⟨#[63]⟩ hb; rw [hq] at this; exact this)
    | none =>
      rw [pickG_three hf hq]
      exact ref05_Pick_three x y n c m d q0 q1 q2 q3 q4 q5 q6 q7 q8 q9 q10 q11 q12 q13 q14 q15 q16 q17 q18 q19 s w (fun w' hb => by have := HC w' s hb; rw [hf] at this; exact this) (fun w' hb => by have := HC w' ⟨#[63]⟩ hb; rw [hq] at this; exact this)

end Go.Proofs.Ytdbcdjiclkmknaa
