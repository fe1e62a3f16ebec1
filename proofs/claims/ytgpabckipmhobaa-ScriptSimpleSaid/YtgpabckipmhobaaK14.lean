/- Texts Sim, Pick, Lte, Fre. -/
import Derived.Test.YtgpabckipmhobaaK06
import Derived.Test.YtgpabckipmhobaaK13
import Derived.Test.YtgpabckipmhobaaK01
import Derived.Test.YtgpabckipmhobaaK04
import Derived.Test.YtgpabckipmhobaaK00
namespace Go.Proofs.Ytgpabckipmhobaa
open Go.RowKit

attribute [local irreducible] wpQuiet wpG wpP wpK wpList Code.wp Calls

set_option maxHeartbeats 8000000 in
set_option maxRecDepth 100000 in
theorem script_Simple_none (n : Nat) (b : Bx n) (cs : List Value) (w : World) (hr : Rep w n b cs) (hi : innerS n b = none) : Calls Try.prog 14 #[.agg cs.toArray] w (Gives (.tuple #[.agg #[.int .i64 0, .string ⟨#[]⟩, .int .i64 0, .int .i64 0, .int .i64 0, .int .i64 0, .int .i64 0, .int .i64 0, .slice none 0 0, .int .i64 0, .slice none 0 0], .bool false]) w) := by
  have HI := Lib.hid (fun w' k (h : Below w.heap.size w w') (hk : w'.rangeAt k 0 cs) => innermost_calls (fun k => k < w.heap.size) n b cs k 0 w' hk (RepG.step h n b cs (rep_old n b cs hr)))
  rw [hi] at HI
  obtain ⟨c0, c1, c2, c3, c4, c5, c6, c7, c8, c9, c10, rfl⟩ := eleven hr.len
  clear hr hi
  go_enter Try.func14, Try.ntmps14
  have hS := own_start w
  go_wp2_with (first | (refine own_unguard (by rfl) ?_) | (go_at_call 28; refine Calls.mono (HI.out _ _ hS.below (hS.get at1).range) ?_; rintro e w1 ⟨v, rfl, hv, hb1⟩; obtain rfl : v = _ := hv; have hS1 := hS.step hb1; clear hS hb1; (try clear ww); have hS := hS1; clear hS1) | (refine w_ld rfl _ rfl (by rfl) (by first | exact rd_1 (by repeat constructor) (by first | rfl | assumption) | exact rd_w (by repeat constructor) (by rfl) | exact rd_o (by assumption) (by rfl) (by first | exact nmn | assumption | simp) | exact rd_h (by assumption) (by rfl) (by first | exact nmn | assumption | simp) | exact rd_1o (by assumption) (by first | exact nmn | assumption | simp) | exact rd_1h (by assumption) (by first | rfl | assumption) (by first | exact nmn | assumption | simp)) hS ?_) | (refine own_box rfl _ _ rfl (by rfl) hS ?_; clear hS; (try clear ww); intro bb ww hS) | (refine w_al rfl rfl hS ?_; clear hS; (try clear ww); intro bb ww hS) | (refine w_st rfl _ _ rfl (by rfl) (by rfl) (by repeat constructor) (by rfl) (by rfl) (by first | rfl | assumption) hS ?_; clear hS; (try clear ww); intro ww hS) | (refine w_s1 rfl _ _ rfl (by rfl) (by repeat constructor) (by first | exact .c | exact .t rfl) (by rfl) (by repeat constructor) hS ?_; clear hS; (try clear ww); intro ww hS))
  have hc := (hS.get at0).cell
  refine bodyPost_ret (v := .tuple #[.agg #[.int .i64 0, .string ⟨#[]⟩, .int .i64 0, .int .i64 0, .int .i64 0, .int .i64 0, .int .i64 0, .int .i64 0, .slice none 0 0, .int .i64 0, .slice none 0 0], .bool false]) (by simp [results, Try.results14, go_sem, hc]) rfl ⟨rfl, hS.below⟩

theorem repIn_turn {P : Nat → Prop} {D : List Nat} {w w' : World} {n : Nat} {b : Bx n} {cs : List Value} {L : List (Nat × List Value)} (h : RepIn P w n b cs) (hS : Own D w L w') (hD : ∀ k, P k → k ∉ D) : RepIn P w' n b cs :=
  (rep_keep2 (Q := P) (fun k hk hlt => hS.block k hlt (hD k hk)) n b cs h).mono (fun _ _ hk => hk.1) (fun _ hk => hk.1)
theorem Own.rebaseI {D : List Nat} {W w : World} {L : List (Nat × List Value)} (hS : Own D W L w) : ∃ DD, Hid (DD = L.map (·.1)) ∧ Own DD w L w := ⟨_, rfl, hS.rebase⟩
theorem ne01I {D : List Nat} {W w : World} {x y : Nat × List Value} {L : List (Nat × List Value)} (hS : Own D W (x :: y :: L) w) : x.1 ≠ y.1 := fun h => by
  have := hS.apart
  simp [h] at this

set_option maxHeartbeats 8000000 in
set_option maxRecDepth 100000 in
theorem script_Simple_some (n : Nat) (b : Bx n) (cs : List Value) (w : World) (hr : Rep w n b cs) (m : Nat) (g : Bx (m + 1)) (hi : innerS n b = some ⟨m, g⟩) (hs : Small (m + 1) g) (hc : bCount (m + 1) g ≤ 1000000) :
    Calls Try.prog 14 #[.agg cs.toArray] w (fun e w' => ∃ cs', e = .returned (.tuple #[.agg cs'.toArray, .bool true]) ∧ Rep w' (m + 1) g cs' ∧ Below w.heap.size w w') := by
  have HI := Lib.hid (fun w' k (h : Below w.heap.size w w') (hk : w'.rangeAt k 0 cs) => innermost_calls (fun k => k < w.heap.size) n b cs k 0 w' hk (RepG.step h n b cs (rep_old n b cs hr)))
  rw [hi] at HI
  have HD := Lib.hid (fun w' (h : Below w.heap.size w w') gcs (hg : RepIn (fun k => k < w.heap.size) w' (m + 1) g gcs) => deep_Box_calls (fun k => k < w.heap.size) (m + 1) g gcs w' (fun k hk => Nat.lt_of_lt_of_le hk h.size) hg hs hc)
  obtain ⟨c0, c1, c2, c3, c4, c5, c6, c7, c8, c9, c10, rfl⟩ := eleven hr.len
  clear hr hi hs hc
  go_enter Try.func14, Try.ntmps14
  have hS := own_start w
  go_wp2_with (first | (refine own_unguard (by rfl) ?_) | (refine w_ld rfl _ rfl (by rfl) (by first | exact rd_1 (by repeat constructor) (by first | rfl | assumption) | exact rd_w (by repeat constructor) (by rfl) | exact rd_o (by assumption) (by rfl) (by first | exact nmn | assumption | simp) | exact rd_h (by assumption) (by rfl) (by first | exact nmn | assumption | simp) | exact rd_1o (by assumption) (by first | exact nmn | assumption | simp) | exact rd_1h (by assumption) (by first | rfl | assumption) (by first | exact nmn | assumption | simp)) hS ?_) | (refine own_box rfl _ _ rfl (by rfl) hS ?_; clear hS; (try clear ww); intro bb ww hS) | (refine w_al rfl rfl hS ?_; clear hS; (try clear ww); intro bb ww hS) | (refine w_st rfl _ _ rfl (by rfl) (by rfl) (by repeat constructor) (by rfl) (by rfl) (by first | rfl | assumption) hS ?_; clear hS; (try clear ww); intro ww hS) | (refine w_s1 rfl _ _ rfl (by rfl) (by repeat constructor) (by first | exact .c | exact .t rfl) (by rfl) (by repeat constructor) hS ?_; clear hS; (try clear ww); intro ww hS))
  go_at_call 28
  refine Calls.mono (HI.out _ _ hS.below (hS.get at1).range) ?_
  rintro e w1 ⟨v, rfl, ⟨k, o, gcs, rfl, hkP, hk, hg⟩, hb1⟩
  have hne := ne01I hS
  have hlo := hS.geAt at0
  have hlt := (hS.get at0).lt
  have hk1 := rangeAt_below hk hb1
  have hg1 : RepIn (fun k => k < w.heap.size) w1 (m + 1) g gcs := RepG.step hb1 _ _ _ hg
  have HS1 := Lib.hid ((hS.step hb1).forget (List.Sublist.cons_cons _ (List.nil_sublist _)))
  have hlt1 := Nat.lt_of_lt_of_le hlt hb1.size
  obtain ⟨DD, HDD, hS2⟩ := HS1.out.rebaseI
  have hkn : k ∉ DD := fun hm => by
    rw [HDD.out] at hm
    simp only [List.map_cons, List.map_nil, List.mem_singleton] at hm
    rcases hkP with h | h
    · exact hne (hm.symm.trans h)
    · rcases hlo with h2 | h2
      · cases h2
      · omega
  have HG := Lib.hid hg1
  have hall := rep_all (hg1.mono (fun _ _ _ => trivial) (fun _ _ => trivial) : Rep w1 (m + 1) g gcs)
  obtain ⟨e0, e1, e2, e3, e4, e5, e6, e7, e8, e9, e10, rfl⟩ := eleven hg1.len
  clear hg hg1 hk hb1 hS hne hlt
  (try clear ww)
  have hS := hS2
  clear hS2
  go_wp2_with (first | (refine own_unguard (by rfl) ?_) | (refine w_ld rfl _ rfl (by rfl) (by first | exact rd_1 (by repeat constructor) (by first | rfl | assumption) | exact rd_w (by repeat constructor) (by rfl) | exact rd_o (by assumption) (by rfl) (by first | exact nmn | assumption | simp) | exact rd_h (by assumption) (by rfl) (by first | exact nmn | assumption | simp) | exact rd_1o (by assumption) (by first | exact nmn | assumption | simp) | exact rd_1h (by assumption) (by first | rfl | assumption) (by first | exact nmn | assumption | simp)) hS ?_) | (refine own_box rfl _ _ rfl (by rfl) hS ?_; clear hS; (try clear ww); intro bb ww hS) | (refine w_al rfl rfl hS ?_; clear hS; (try clear ww); intro bb ww hS) | (refine w_st rfl _ _ rfl (by rfl) (by rfl) (by repeat constructor) (by rfl) (by rfl) (by first | rfl | assumption) hS ?_; clear hS; (try clear ww); intro ww hS) | (refine w_s1 rfl _ _ rfl (by rfl) (by repeat constructor) (by first | exact .c | exact .t rfl) (by rfl) (by repeat constructor) hS ?_; clear hS; (try clear ww); intro ww hS))
  go_at_call 29
  refine Calls.mono (HD.out _ HS1.out.below _ HG.out) ?_
  rintro e w2 ⟨cs2, rfl, hr2, hb2⟩
  have HS2 := Lib.hid (HS1.out.step hb2)
  obtain ⟨DE, HDE, hS3⟩ := HS2.out.rebaseI
  have HR2 := Lib.hid (show RepIn (fun k => k < w.heap.size ∨ w1.heap.size ≤ k) w2 (m + 1) g cs2 from hr2)
  have hall2 := rep_all (hr2.mono (fun _ _ _ => trivial) (fun _ _ => trivial) : Rep w2 (m + 1) g cs2)
  obtain ⟨f0, f1, f2, f3, f4, f5, f6, f7, f8, f9, f10, rfl⟩ := eleven hr2.len
  have hoff : ∀ k, (k < w.heap.size ∨ w1.heap.size ≤ k) → k ∉ DE := fun k hk hm => by
    rw [HDE.out] at hm
    simp only [List.map_cons, List.map_nil, List.mem_singleton] at hm
    subst hm
    rcases hlo with h2 | h2
    · cases h2
    · omega
  have HOf := Lib.hid hoff
  clear hS hr2 hb2 hall hoff hlo hlt1 hk1 hkn
  have hS := hS3
  clear hS3
  go_wp2_with (first | (refine own_unguard (by rfl) ?_) | (refine w_ld rfl _ rfl (by rfl) (by first | exact rd_1 (by repeat constructor) (by first | rfl | assumption) | exact rd_w (by repeat constructor) (by rfl) | exact rd_o (by assumption) (by rfl) (by first | exact nmn | assumption | simp) | exact rd_h (by assumption) (by rfl) (by first | exact nmn | assumption | simp) | exact rd_1o (by assumption) (by first | exact nmn | assumption | simp) | exact rd_1h (by assumption) (by first | rfl | assumption) (by first | exact nmn | assumption | simp)) hS ?_) | (refine own_box rfl _ _ rfl (by rfl) hS ?_; clear hS; (try clear ww); intro bb ww hS) | (refine w_al rfl rfl hS ?_; clear hS; (try clear ww); intro bb ww hS) | (refine w_st rfl _ _ rfl (by rfl) (by rfl) (by repeat constructor) (by rfl) (by rfl) (by first | rfl | assumption) hS ?_; clear hS; (try clear ww); intro ww hS) | (refine w_s1 rfl _ _ rfl (by rfl) (by repeat constructor) (by first | exact .c | exact .t rfl) (by rfl) (by repeat constructor) hS ?_; clear hS; (try clear ww); intro ww hS))
  have hc := (hS.get at0).cell
  have hB := HS2.out.below
  have hS4 := hS
  rw [HDE.out] at hS4
  refine bodyPost_ret (v := .tuple #[.agg #[f0, f1, f2, f3, f4, f5, f6, f7, f8, f9, f10], .bool true]) (by simp [results, Try.results14, go_sem, hc]) rfl ⟨_, rfl, (repIn_turn HR2.out hS HOf.out).mono (fun _ _ _ => trivial) (fun _ _ => trivial), (HS2.out.chain hS4).below⟩

end Go.Proofs.Ytgpabckipmhobaa
namespace Go.Proofs.Ytgpabckipmhobaa
open Go.RowKit

attribute [local irreducible] wpQuiet wpList Code.wp

theorem GlysAt.below {w w' : World} {v : Value} {gs : List Gly} (h : GlysAt w v gs) (hb : Below w.heap.size w w') : GlysAt w' v gs := by
  rcases h with h | ⟨b, o, c, rfl, h⟩
  · exact .inl h
  · refine .inr ⟨b, o, c, rfl, fun i g hi => ?_⟩
    obtain ⟨h0, h1, h2, h3, h4, h5⟩ := h i g hi
    have hl : b < w.heap.size := World.block_lt_of_cell? w _ h0
    exact ⟨(hb.cell hl).trans h0, (hb.cell hl).trans h1, (hb.cell hl).trans h2, (hb.cell hl).trans h3, (hb.cell hl).trans h4, (hb.cell hl).trans h5⟩

/-- What Pick returns. -/
def pickG (gs : List Gly) (s : ByteArray) : Gly :=
  match findG gs s with
  | some g => g
  | none => match findG gs ⟨#[63]⟩ with
    | some g => g
    | none => { name := s, w := 0, h := 0, d := 0, it := 0, at_ := 0 }

theorem pickG_one {gs : List Gly} {s : ByteArray} (g : Gly) (h : findG gs s = some g) : pickG gs s = g := by unfold pickG; rw [h]
theorem pickG_two {gs : List Gly} {s : ByteArray} (g : Gly) (h : findG gs s = none) (h2 : findG gs ⟨#[63]⟩ = some g) : pickG gs s = g := by unfold pickG; rw [h]; simp only [h2]
theorem pickG_three {gs : List Gly} {s : ByteArray} (h : findG gs s = none) (h2 : findG gs ⟨#[63]⟩ = none) : pickG gs s = { name := s, w := 0, h := 0, d := 0, it := 0, at_ := 0 } := by unfold pickG; rw [h]; simp only [h2]

set_option maxHeartbeats 4000000 in
set_option maxRecDepth 100000 in
theorem font_Pick_one (x y : Option Addr) (n c m d : Nat) (q0 q1 q2 q3 q4 q5 q6 q7 q8 q9 q10 q11 q12 q13 q14 q15 q16 q17 q18 q19 : Int) (s : ByteArray) (g : Gly) (w : World)
    (H : ∀ w', Below w.heap.size w w' → Calls Try.prog 65 #[.agg #[.slice x n c, .slice y m d, .int .i64 q0, .int .i64 q1, .int .i64 q2, .int .i64 q3, .int .i64 q4, .int .i64 q5, .int .i64 q6, .int .i64 q7, .int .i64 q8, .int .i64 q9, .int .i64 q10, .int .i64 q11, .int .i64 q12, .int .i64 q13, .int .i64 q14, .int .i64 q15, .int .i64 q16, .int .i64 q17, .int .i64 q18, .int .i64 q19], .string s] w' (Gives (.tuple #[.agg #[.string g.name, .int .i64 g.w, .int .i64 g.h, .int .i64 g.d, .int .i64 g.it, .int .i64 g.at_], .bool true]) w')) :
    Calls Try.prog 41 #[.agg #[.slice x n c, .slice y m d, .int .i64 q0, .int .i64 q1, .int .i64 q2, .int .i64 q3, .int .i64 q4, .int .i64 q5, .int .i64 q6, .int .i64 q7, .int .i64 q8, .int .i64 q9, .int .i64 q10, .int .i64 q11, .int .i64 q12, .int .i64 q13, .int .i64 q14, .int .i64 q15, .int .i64 q16, .int .i64 q17, .int .i64 q18, .int .i64 q19], .string s] w (Gives (.agg #[.string g.name, .int .i64 g.w, .int .i64 g.h, .int .i64 g.d, .int .i64 g.it, .int .i64 g.at_]) w) := by
  have H1 := Lib.hid H
  clear H
  go_enter Try.func41, Try.ntmps41
  have hS := own_start w
  go_wp2_with (first | (refine own_unguard (by rfl) ?_) | (go_at_call 65; refine own_calls hS (H1.out _ hS.below) ?_; clear hS; (try clear ww); intro ww hS) | (refine w_ld rfl _ rfl (by rfl) (by first | exact rd_1 (by repeat constructor) (by first | rfl | assumption) | exact rd_w (by repeat constructor) (by rfl) | exact rd_o (by assumption) (by rfl) (by first | exact nmn | assumption | simp) | exact rd_h (by assumption) (by rfl) (by first | exact nmn | assumption | simp) | exact rd_1o (by assumption) (by first | exact nmn | assumption | simp) | exact rd_1h (by assumption) (by first | rfl | assumption) (by first | exact nmn | assumption | simp)) hS ?_) | (refine own_box rfl _ _ rfl (by rfl) hS ?_; clear hS; (try clear ww); intro bb ww hS) | (refine w_al rfl rfl hS ?_; clear hS; (try clear ww); intro bb ww hS) | (refine w_st rfl _ _ rfl (by rfl) (by rfl) (by repeat constructor) (by rfl) (by rfl) (by first | rfl | assumption) hS ?_; clear hS; (try clear ww); intro ww hS) | (refine w_s1 rfl _ _ rfl (by rfl) (by repeat constructor) (by first | exact .c | exact .t rfl) (by rfl) (by repeat constructor) hS ?_; clear hS; (try clear ww); intro ww hS))
  have hc := (hS.get at1).cell
  refine bodyPost_ret (v := .agg #[.string g.name, .int .i64 g.w, .int .i64 g.h, .int .i64 g.d, .int .i64 g.it, .int .i64 g.at_]) (by simp [results, Try.results41, go_sem, hc]) rfl (own_gives hS)

set_option maxHeartbeats 4000000 in
set_option maxRecDepth 100000 in
theorem font_Pick_two (x y : Option Addr) (n c m d : Nat) (q0 q1 q2 q3 q4 q5 q6 q7 q8 q9 q10 q11 q12 q13 q14 q15 q16 q17 q18 q19 : Int) (s : ByteArray) (g : Gly) (w : World)
    (H : ∀ w', Below w.heap.size w w' → Calls Try.prog 65 #[.agg #[.slice x n c, .slice y m d, .int .i64 q0, .int .i64 q1, .int .i64 q2, .int .i64 q3, .int .i64 q4, .int .i64 q5, .int .i64 q6, .int .i64 q7, .int .i64 q8, .int .i64 q9, .int .i64 q10, .int .i64 q11, .int .i64 q12, .int .i64 q13, .int .i64 q14, .int .i64 q15, .int .i64 q16, .int .i64 q17, .int .i64 q18, .int .i64 q19], .string s] w' (Gives (.tuple #[.agg #[.string ⟨#[]⟩, .int .i64 0, .int .i64 0, .int .i64 0, .int .i64 0, .int .i64 0], .bool false]) w'))
    (H' : ∀ w', Below w.heap.size w w' → Calls Try.prog 65 #[.agg #[.slice x n c, .slice y m d, .int .i64 q0, .int .i64 q1, .int .i64 q2, .int .i64 q3, .int .i64 q4, .int .i64 q5, .int .i64 q6, .int .i64 q7, .int .i64 q8, .int .i64 q9, .int .i64 q10, .int .i64 q11, .int .i64 q12, .int .i64 q13, .int .i64 q14, .int .i64 q15, .int .i64 q16, .int .i64 q17, .int .i64 q18, .int .i64 q19], .string ⟨#[63]⟩] w' (Gives (.tuple #[.agg #[.string g.name, .int .i64 g.w, .int .i64 g.h, .int .i64 g.d, .int .i64 g.it, .int .i64 g.at_], .bool true]) w')) :
    Calls Try.prog 41 #[.agg #[.slice x n c, .slice y m d, .int .i64 q0, .int .i64 q1, .int .i64 q2, .int .i64 q3, .int .i64 q4, .int .i64 q5, .int .i64 q6, .int .i64 q7, .int .i64 q8, .int .i64 q9, .int .i64 q10, .int .i64 q11, .int .i64 q12, .int .i64 q13, .int .i64 q14, .int .i64 q15, .int .i64 q16, .int .i64 q17, .int .i64 q18, .int .i64 q19], .string s] w (Gives (.agg #[.string g.name, .int .i64 g.w, .int .i64 g.h, .int .i64 g.d, .int .i64 g.it, .int .i64 g.at_]) w) := by
  have H1 := Lib.hid H
  have H2 := Lib.hid H'
  clear H H'
  go_enter Try.func41, Try.ntmps41
  have hS := own_start w
  have tok1 : True := trivial
  go_wp2_with (first | (refine own_unguard (by rfl) ?_) | (go_at_call 65; have _t := tok1; refine own_calls hS (H1.out _ hS.below) ?_; clear hS tok1; (try clear ww); intro ww hS) | (go_at_call 65; refine own_calls hS (H2.out _ hS.below) ?_; clear hS; (try clear ww); intro ww hS) | (refine w_ld rfl _ rfl (by rfl) (by first | exact rd_1 (by repeat constructor) (by first | rfl | assumption) | exact rd_w (by repeat constructor) (by rfl) | exact rd_o (by assumption) (by rfl) (by first | exact nmn | assumption | simp) | exact rd_h (by assumption) (by rfl) (by first | exact nmn | assumption | simp) | exact rd_1o (by assumption) (by first | exact nmn | assumption | simp) | exact rd_1h (by assumption) (by first | rfl | assumption) (by first | exact nmn | assumption | simp)) hS ?_) | (refine own_box rfl _ _ rfl (by rfl) hS ?_; clear hS; (try clear ww); intro bb ww hS) | (refine w_al rfl rfl hS ?_; clear hS; (try clear ww); intro bb ww hS) | (refine w_st rfl _ _ rfl (by rfl) (by rfl) (by repeat constructor) (by rfl) (by rfl) (by first | rfl | assumption) hS ?_; clear hS; (try clear ww); intro ww hS) | (refine w_s1 rfl _ _ rfl (by rfl) (by repeat constructor) (by first | exact .c | exact .t rfl) (by rfl) (by repeat constructor) hS ?_; clear hS; (try clear ww); intro ww hS))
  have hc := (hS.get at2).cell
  refine bodyPost_ret (v := .agg #[.string g.name, .int .i64 g.w, .int .i64 g.h, .int .i64 g.d, .int .i64 g.it, .int .i64 g.at_]) (by simp [results, Try.results41, go_sem, hc]) rfl (own_gives hS)

set_option maxHeartbeats 4000000 in
set_option maxRecDepth 100000 in
theorem font_Pick_three (x y : Option Addr) (n c m d : Nat) (q0 q1 q2 q3 q4 q5 q6 q7 q8 q9 q10 q11 q12 q13 q14 q15 q16 q17 q18 q19 : Int) (s : ByteArray) (w : World)
    (H : ∀ w', Below w.heap.size w w' → Calls Try.prog 65 #[.agg #[.slice x n c, .slice y m d, .int .i64 q0, .int .i64 q1, .int .i64 q2, .int .i64 q3, .int .i64 q4, .int .i64 q5, .int .i64 q6, .int .i64 q7, .int .i64 q8, .int .i64 q9, .int .i64 q10, .int .i64 q11, .int .i64 q12, .int .i64 q13, .int .i64 q14, .int .i64 q15, .int .i64 q16, .int .i64 q17, .int .i64 q18, .int .i64 q19], .string s] w' (Gives (.tuple #[.agg #[.string ⟨#[]⟩, .int .i64 0, .int .i64 0, .int .i64 0, .int .i64 0, .int .i64 0], .bool false]) w'))
    (H' : ∀ w', Below w.heap.size w w' → Calls Try.prog 65 #[.agg #[.slice x n c, .slice y m d, .int .i64 q0, .int .i64 q1, .int .i64 q2, .int .i64 q3, .int .i64 q4, .int .i64 q5, .int .i64 q6, .int .i64 q7, .int .i64 q8, .int .i64 q9, .int .i64 q10, .int .i64 q11, .int .i64 q12, .int .i64 q13, .int .i64 q14, .int .i64 q15, .int .i64 q16, .int .i64 q17, .int .i64 q18, .int .i64 q19], .string ⟨#[63]⟩] w' (Gives (.tuple #[.agg #[.string ⟨#[]⟩, .int .i64 0, .int .i64 0, .int .i64 0, .int .i64 0, .int .i64 0], .bool false]) w')) :
    Calls Try.prog 41 #[.agg #[.slice x n c, .slice y m d, .int .i64 q0, .int .i64 q1, .int .i64 q2, .int .i64 q3, .int .i64 q4, .int .i64 q5, .int .i64 q6, .int .i64 q7, .int .i64 q8, .int .i64 q9, .int .i64 q10, .int .i64 q11, .int .i64 q12, .int .i64 q13, .int .i64 q14, .int .i64 q15, .int .i64 q16, .int .i64 q17, .int .i64 q18, .int .i64 q19], .string s] w (Gives (.agg #[.string s, .int .i64 0, .int .i64 0, .int .i64 0, .int .i64 0, .int .i64 0]) w) := by
  have H1 := Lib.hid H
  have H2 := Lib.hid H'
  clear H H'
  go_enter Try.func41, Try.ntmps41
  have hS := own_start w
  have tok1 : True := trivial
  go_wp2_with (first | (refine own_unguard (by rfl) ?_) | (go_at_call 65; have _t := tok1; refine own_calls hS (H1.out _ hS.below) ?_; clear hS tok1; (try clear ww); intro ww hS) | (go_at_call 65; refine own_calls hS (H2.out _ hS.below) ?_; clear hS; (try clear ww); intro ww hS) | (refine w_ld rfl _ rfl (by rfl) (by first | exact rd_1 (by repeat constructor) (by first | rfl | assumption) | exact rd_w (by repeat constructor) (by rfl) | exact rd_o (by assumption) (by rfl) (by first | exact nmn | assumption | simp) | exact rd_h (by assumption) (by rfl) (by first | exact nmn | assumption | simp) | exact rd_1o (by assumption) (by first | exact nmn | assumption | simp) | exact rd_1h (by assumption) (by first | rfl | assumption) (by first | exact nmn | assumption | simp)) hS ?_) | (refine own_box rfl _ _ rfl (by rfl) hS ?_; clear hS; (try clear ww); intro bb ww hS) | (refine w_al rfl rfl hS ?_; clear hS; (try clear ww); intro bb ww hS) | (refine w_st rfl _ _ rfl (by rfl) (by rfl) (by repeat constructor) (by rfl) (by rfl) (by first | rfl | assumption) hS ?_; clear hS; (try clear ww); intro ww hS) | (refine w_s1 rfl _ _ rfl (by rfl) (by repeat constructor) (by first | exact .c | exact .t rfl) (by rfl) (by repeat constructor) hS ?_; clear hS; (try clear ww); intro ww hS))
  have hc := (hS.get at2).cell
  refine bodyPost_ret (v := .agg #[.string s, .int .i64 0, .int .i64 0, .int .i64 0, .int .i64 0, .int .i64 0]) (by simp [results, Try.results41, go_sem, hc]) rfl (own_gives hS)

theorem font_Pick_calls (x y : Option Addr) (n c m d : Nat) (q0 q1 q2 q3 q4 q5 q6 q7 q8 q9 q10 q11 q12 q13 q14 q15 q16 q17 q18 q19 : Int) (gs : List Gly) (s : ByteArray) (w : World) (hn : gs.length ≤ 1000000) (h : GlysAt w (.slice x n c) gs) :
    Calls Try.prog 41 #[.agg #[.slice x n c, .slice y m d, .int .i64 q0, .int .i64 q1, .int .i64 q2, .int .i64 q3, .int .i64 q4, .int .i64 q5, .int .i64 q6, .int .i64 q7, .int .i64 q8, .int .i64 q9, .int .i64 q10, .int .i64 q11, .int .i64 q12, .int .i64 q13, .int .i64 q14, .int .i64 q15, .int .i64 q16, .int .i64 q17, .int .i64 q18, .int .i64 q19], .string s] w (Gives (.agg #[.string (pickG gs s).name, .int .i64 (pickG gs s).w, .int .i64 (pickG gs s).h, .int .i64 (pickG gs s).d, .int .i64 (pickG gs s).it, .int .i64 (pickG gs s).at_]) w) := by
  have HC := fun (w' : World) (s' : ByteArray) (hb : Below w.heap.size w w') => font_Find_calls (.slice x n c) (.slice y m d) (.int .i64 q0) (.int .i64 q1) (.int .i64 q2) (.int .i64 q3) (.int .i64 q4) (.int .i64 q5) (.int .i64 q6) (.int .i64 q7) (.int .i64 q8) (.int .i64 q9) (.int .i64 q10) (.int .i64 q11) (.int .i64 q12) (.int .i64 q13) (.int .i64 q14) (.int .i64 q15) (.int .i64 q16) (.int .i64 q17) (.int .i64 q18) (.int .i64 q19) gs s' w' hn (h.below hb)
  cases hf : findG gs s with
  | some g =>
    rw [pickG_one g hf]
    exact font_Pick_one x y n c m d q0 q1 q2 q3 q4 q5 q6 q7 q8 q9 q10 q11 q12 q13 q14 q15 q16 q17 q18 q19 s g w (fun w' hb => by have := HC w' s hb; rw [hf] at this; exact this)
  | none =>
    cases hq : findG gs ⟨#[63]⟩ with
    | some g =>
      rw [pickG_two g hf hq]
      exact font_Pick_two x y n c m d q0 q1 q2 q3 q4 q5 q6 q7 q8 q9 q10 q11 q12 q13 q14 q15 q16 q17 q18 q19 s g w (fun w' hb => by have := HC w' s hb; rw [hf] at this; exact this) (fun w' hb => by have := HC w' ⟨#[63]⟩ hb; rw [hq] at this; exact this)
    | none =>
      rw [pickG_three hf hq]
      exact font_Pick_three x y n c m d q0 q1 q2 q3 q4 q5 q6 q7 q8 q9 q10 q11 q12 q13 q14 q15 q16 q17 q18 q19 s w (fun w' hb => by have := HC w' s hb; rw [hf] at this; exact this) (fun w' hb => by have := HC w' ⟨#[63]⟩ hb; rw [hq] at this; exact this)

set_option maxHeartbeats 4000000 in
set_option maxRecDepth 100000 in
theorem ref05_Pick_one (x y : Option Addr) (n c m d : Nat) (q0 q1 q2 q3 q4 q5 q6 q7 q8 q9 q10 q11 q12 q13 q14 q15 q16 q17 q18 q19 : Int) (s : ByteArray) (g : Gly) (w : World)
    (H : ∀ w', Below w.heap.size w w' → Calls Try.prog 54 #[.agg #[.slice x n c, .slice y m d, .int .i64 q0, .int .i64 q1, .int .i64 q2, .int .i64 q3, .int .i64 q4, .int .i64 q5, .int .i64 q6, .int .i64 q7, .int .i64 q8, .int .i64 q9, .int .i64 q10, .int .i64 q11, .int .i64 q12, .int .i64 q13, .int .i64 q14, .int .i64 q15, .int .i64 q16, .int .i64 q17, .int .i64 q18, .int .i64 q19], .string s] w' (Gives (.tuple #[.agg #[.string g.name, .int .i64 g.w, .int .i64 g.h, .int .i64 g.d, .int .i64 g.it, .int .i64 g.at_], .bool true]) w')) :
    Calls Try.prog 37 #[.agg #[.slice x n c, .slice y m d, .int .i64 q0, .int .i64 q1, .int .i64 q2, .int .i64 q3, .int .i64 q4, .int .i64 q5, .int .i64 q6, .int .i64 q7, .int .i64 q8, .int .i64 q9, .int .i64 q10, .int .i64 q11, .int .i64 q12, .int .i64 q13, .int .i64 q14, .int .i64 q15, .int .i64 q16, .int .i64 q17, .int .i64 q18, .int .i64 q19], .string s] w (Gives (.agg #[.string g.name, .int .i64 g.w, .int .i64 g.h, .int .i64 g.d, .int .i64 g.it, .int .i64 g.at_]) w) := by
  have H1 := Lib.hid H
  clear H
  go_enter Try.func37, Try.ntmps37
  have hS := own_start w
  go_wp2_with (first | (refine own_unguard (by rfl) ?_) | (go_at_call 54; refine own_calls hS (H1.out _ hS.below) ?_; clear hS; (try clear ww); intro ww hS) | (refine w_ld rfl _ rfl (by rfl) (by first | exact rd_1 (by repeat constructor) (by first | rfl | assumption) | exact rd_w (by repeat constructor) (by rfl) | exact rd_o (by assumption) (by rfl) (by first | exact nmn | assumption | simp) | exact rd_h (by assumption) (by rfl) (by first | exact nmn | assumption | simp) | exact rd_1o (by assumption) (by first | exact nmn | assumption | simp) | exact rd_1h (by assumption) (by first | rfl | assumption) (by first | exact nmn | assumption | simp)) hS ?_) | (refine own_box rfl _ _ rfl (by rfl) hS ?_; clear hS; (try clear ww); intro bb ww hS) | (refine w_al rfl rfl hS ?_; clear hS; (try clear ww); intro bb ww hS) | (refine w_st rfl _ _ rfl (by rfl) (by rfl) (by repeat constructor) (by rfl) (by rfl) (by first | rfl | assumption) hS ?_; clear hS; (try clear ww); intro ww hS) | (refine w_s1 rfl _ _ rfl (by rfl) (by repeat constructor) (by first | exact .c | exact .t rfl) (by rfl) (by repeat constructor) hS ?_; clear hS; (try clear ww); intro ww hS))
  have hc := (hS.get at1).cell
  refine bodyPost_ret (v := .agg #[.string g.name, .int .i64 g.w, .int .i64 g.h, .int .i64 g.d, .int .i64 g.it, .int .i64 g.at_]) (by simp [results, Try.results37, go_sem, hc]) rfl (own_gives hS)

set_option maxHeartbeats 4000000 in
set_option maxRecDepth 100000 in
theorem ref05_Pick_two (x y : Option Addr) (n c m d : Nat) (q0 q1 q2 q3 q4 q5 q6 q7 q8 q9 q10 q11 q12 q13 q14 q15 q16 q17 q18 q19 : Int) (s : ByteArray) (g : Gly) (w : World)
    (H : ∀ w', Below w.heap.size w w' → Calls Try.prog 54 #[.agg #[.slice x n c, .slice y m d, .int .i64 q0, .int .i64 q1, .int .i64 q2, .int .i64 q3, .int .i64 q4, .int .i64 q5, .int .i64 q6, .int .i64 q7, .int .i64 q8, .int .i64 q9, .int .i64 q10, .int .i64 q11, .int .i64 q12, .int .i64 q13, .int .i64 q14, .int .i64 q15, .int .i64 q16, .int .i64 q17, .int .i64 q18, .int .i64 q19], .string s] w' (Gives (.tuple #[.agg #[.string ⟨#[]⟩, .int .i64 0, .int .i64 0, .int .i64 0, .int .i64 0, .int .i64 0], .bool false]) w'))
    (H' : ∀ w', Below w.heap.size w w' → Calls Try.prog 54 #[.agg #[.slice x n c, .slice y m d, .int .i64 q0, .int .i64 q1, .int .i64 q2, .int .i64 q3, .int .i64 q4, .int .i64 q5, .int .i64 q6, .int .i64 q7, .int .i64 q8, .int .i64 q9, .int .i64 q10, .int .i64 q11, .int .i64 q12, .int .i64 q13, .int .i64 q14, .int .i64 q15, .int .i64 q16, .int .i64 q17, .int .i64 q18, .int .i64 q19], .string ⟨#[63]⟩] w' (Gives (.tuple #[.agg #[.string g.name, .int .i64 g.w, .int .i64 g.h, .int .i64 g.d, .int .i64 g.it, .int .i64 g.at_], .bool true]) w')) :
    Calls Try.prog 37 #[.agg #[.slice x n c, .slice y m d, .int .i64 q0, .int .i64 q1, .int .i64 q2, .int .i64 q3, .int .i64 q4, .int .i64 q5, .int .i64 q6, .int .i64 q7, .int .i64 q8, .int .i64 q9, .int .i64 q10, .int .i64 q11, .int .i64 q12, .int .i64 q13, .int .i64 q14, .int .i64 q15, .int .i64 q16, .int .i64 q17, .int .i64 q18, .int .i64 q19], .string s] w (Gives (.agg #[.string g.name, .int .i64 g.w, .int .i64 g.h, .int .i64 g.d, .int .i64 g.it, .int .i64 g.at_]) w) := by
  have H1 := Lib.hid H
  have H2 := Lib.hid H'
  clear H H'
  go_enter Try.func37, Try.ntmps37
  have hS := own_start w
  have tok1 : True := trivial
  go_wp2_with (first | (refine own_unguard (by rfl) ?_) | (go_at_call 54; have _t := tok1; refine own_calls hS (H1.out _ hS.below) ?_; clear hS tok1; (try clear ww); intro ww hS) | (go_at_call 54; refine own_calls hS (H2.out _ hS.below) ?_; clear hS; (try clear ww); intro ww hS) | (refine w_ld rfl _ rfl (by rfl) (by first | exact rd_1 (by repeat constructor) (by first | rfl | assumption) | exact rd_w (by repeat constructor) (by rfl) | exact rd_o (by assumption) (by rfl) (by first | exact nmn | assumption | simp) | exact rd_h (by assumption) (by rfl) (by first | exact nmn | assumption | simp) | exact rd_1o (by assumption) (by first | exact nmn | assumption | simp) | exact rd_1h (by assumption) (by first | rfl | assumption) (by first | exact nmn | assumption | simp)) hS ?_) | (refine own_box rfl _ _ rfl (by rfl) hS ?_; clear hS; (try clear ww); intro bb ww hS) | (refine w_al rfl rfl hS ?_; clear hS; (try clear ww); intro bb ww hS) | (refine w_st rfl _ _ rfl (by rfl) (by rfl) (by repeat constructor) (by rfl) (by rfl) (by first | rfl | assumption) hS ?_; clear hS; (try clear ww); intro ww hS) | (refine w_s1 rfl _ _ rfl (by rfl) (by repeat constructor) (by first | exact .c | exact .t rfl) (by rfl) (by repeat constructor) hS ?_; clear hS; (try clear ww); intro ww hS))
  have hc := (hS.get at2).cell
  refine bodyPost_ret (v := .agg #[.string g.name, .int .i64 g.w, .int .i64 g.h, .int .i64 g.d, .int .i64 g.it, .int .i64 g.at_]) (by simp [results, Try.results37, go_sem, hc]) rfl (own_gives hS)

set_option maxHeartbeats 4000000 in
set_option maxRecDepth 100000 in
theorem ref05_Pick_three (x y : Option Addr) (n c m d : Nat) (q0 q1 q2 q3 q4 q5 q6 q7 q8 q9 q10 q11 q12 q13 q14 q15 q16 q17 q18 q19 : Int) (s : ByteArray) (w : World)
    (H : ∀ w', Below w.heap.size w w' → Calls Try.prog 54 #[.agg #[.slice x n c, .slice y m d, .int .i64 q0, .int .i64 q1, .int .i64 q2, .int .i64 q3, .int .i64 q4, .int .i64 q5, .int .i64 q6, .int .i64 q7, .int .i64 q8, .int .i64 q9, .int .i64 q10, .int .i64 q11, .int .i64 q12, .int .i64 q13, .int .i64 q14, .int .i64 q15, .int .i64 q16, .int .i64 q17, .int .i64 q18, .int .i64 q19], .string s] w' (Gives (.tuple #[.agg #[.string ⟨#[]⟩, .int .i64 0, .int .i64 0, .int .i64 0, .int .i64 0, .int .i64 0], .bool false]) w'))
    (H' : ∀ w', Below w.heap.size w w' → Calls Try.prog 54 #[.agg #[.slice x n c, .slice y m d, .int .i64 q0, .int .i64 q1, .int .i64 q2, .int .i64 q3, .int .i64 q4, .int .i64 q5, .int .i64 q6, .int .i64 q7, .int .i64 q8, .int .i64 q9, .int .i64 q10, .int .i64 q11, .int .i64 q12, .int .i64 q13, .int .i64 q14, .int .i64 q15, .int .i64 q16, .int .i64 q17, .int .i64 q18, .int .i64 q19], .string ⟨#[63]⟩] w' (Gives (.tuple #[.agg #[.string ⟨#[]⟩, .int .i64 0, .int .i64 0, .int .i64 0, .int .i64 0, .int .i64 0], .bool false]) w')) :
    Calls Try.prog 37 #[.agg #[.slice x n c, .slice y m d, .int .i64 q0, .int .i64 q1, .int .i64 q2, .int .i64 q3, .int .i64 q4, .int .i64 q5, .int .i64 q6, .int .i64 q7, .int .i64 q8, .int .i64 q9, .int .i64 q10, .int .i64 q11, .int .i64 q12, .int .i64 q13, .int .i64 q14, .int .i64 q15, .int .i64 q16, .int .i64 q17, .int .i64 q18, .int .i64 q19], .string s] w (Gives (.agg #[.string s, .int .i64 0, .int .i64 0, .int .i64 0, .int .i64 0, .int .i64 0]) w) := by
  have H1 := Lib.hid H
  have H2 := Lib.hid H'
  clear H H'
  go_enter Try.func37, Try.ntmps37
  have hS := own_start w
  have tok1 : True := trivial
  go_wp2_with (first | (refine own_unguard (by rfl) ?_) | (go_at_call 54; have _t := tok1; refine own_calls hS (H1.out _ hS.below) ?_; clear hS tok1; (try clear ww); intro ww hS) | (go_at_call 54; refine own_calls hS (H2.out _ hS.below) ?_; clear hS; (try clear ww); intro ww hS) | (refine w_ld rfl _ rfl (by rfl) (by first | exact rd_1 (by repeat constructor) (by first | rfl | assumption) | exact rd_w (by repeat constructor) (by rfl) | exact rd_o (by assumption) (by rfl) (by first | exact nmn | assumption | simp) | exact rd_h (by assumption) (by rfl) (by first | exact nmn | assumption | simp) | exact rd_1o (by assumption) (by first | exact nmn | assumption | simp) | exact rd_1h (by assumption) (by first | rfl | assumption) (by first | exact nmn | assumption | simp)) hS ?_) | (refine own_box rfl _ _ rfl (by rfl) hS ?_; clear hS; (try clear ww); intro bb ww hS) | (refine w_al rfl rfl hS ?_; clear hS; (try clear ww); intro bb ww hS) | (refine w_st rfl _ _ rfl (by rfl) (by rfl) (by repeat constructor) (by rfl) (by rfl) (by first | rfl | assumption) hS ?_; clear hS; (try clear ww); intro ww hS) | (refine w_s1 rfl _ _ rfl (by rfl) (by repeat constructor) (by first | exact .c | exact .t rfl) (by rfl) (by repeat constructor) hS ?_; clear hS; (try clear ww); intro ww hS))
  have hc := (hS.get at2).cell
  refine bodyPost_ret (v := .agg #[.string s, .int .i64 0, .int .i64 0, .int .i64 0, .int .i64 0, .int .i64 0]) (by simp [results, Try.results37, go_sem, hc]) rfl (own_gives hS)

theorem ref05_Pick_calls (x y : Option Addr) (n c m d : Nat) (q0 q1 q2 q3 q4 q5 q6 q7 q8 q9 q10 q11 q12 q13 q14 q15 q16 q17 q18 q19 : Int) (gs : List Gly) (s : ByteArray) (w : World) (hn : gs.length ≤ 1000000) (h : GlysAt w (.slice x n c) gs) :
    Calls Try.prog 37 #[.agg #[.slice x n c, .slice y m d, .int .i64 q0, .int .i64 q1, .int .i64 q2, .int .i64 q3, .int .i64 q4, .int .i64 q5, .int .i64 q6, .int .i64 q7, .int .i64 q8, .int .i64 q9, .int .i64 q10, .int .i64 q11, .int .i64 q12, .int .i64 q13, .int .i64 q14, .int .i64 q15, .int .i64 q16, .int .i64 q17, .int .i64 q18, .int .i64 q19], .string s] w (Gives (.agg #[.string (pickG gs s).name, .int .i64 (pickG gs s).w, .int .i64 (pickG gs s).h, .int .i64 (pickG gs s).d, .int .i64 (pickG gs s).it, .int .i64 (pickG gs s).at_]) w) := by
  have HC := fun (w' : World) (s' : ByteArray) (hb : Below w.heap.size w w') => ref05_Find_calls (.slice x n c) (.slice y m d) (.int .i64 q0) (.int .i64 q1) (.int .i64 q2) (.int .i64 q3) (.int .i64 q4) (.int .i64 q5) (.int .i64 q6) (.int .i64 q7) (.int .i64 q8) (.int .i64 q9) (.int .i64 q10) (.int .i64 q11) (.int .i64 q12) (.int .i64 q13) (.int .i64 q14) (.int .i64 q15) (.int .i64 q16) (.int .i64 q17) (.int .i64 q18) (.int .i64 q19) gs s' w' hn (h.below hb)
  cases hf : findG gs s with
  | some g =>
    rw [pickG_one g hf]
    exact ref05_Pick_one x y n c m d q0 q1 q2 q3 q4 q5 q6 q7 q8 q9 q10 q11 q12 q13 q14 q15 q16 q17 q18 q19 s g w (fun w' hb => by have := HC w' s hb; rw [hf] at this; exact this)
  | none =>
    cases hq : findG gs ⟨#[63]⟩ with
    | some g =>
      rw [pickG_two g hf hq]
      exact ref05_Pick_two x y n c m d q0 q1 q2 q3 q4 q5 q6 q7 q8 q9 q10 q11 q12 q13 q14 q15 q16 q17 q18 q19 s g w (fun w' hb => by have := HC w' s hb; rw [hf] at this; exact this) (fun w' hb => by have := HC w' ⟨#[63]⟩ hb; rw [hq] at this; exact this)
    | none =>
      rw [pickG_three hf hq]
      exact ref05_Pick_three x y n c m d q0 q1 q2 q3 q4 q5 q6 q7 q8 q9 q10 q11 q12 q13 q14 q15 q16 q17 q18 q19 s w (fun w' hb => by have := HC w' s hb; rw [hf] at this; exact this) (fun w' hb => by have := HC w' ⟨#[63]⟩ hb; rw [hq] at this; exact this)

end Go.Proofs.Ytgpabckipmhobaa
namespace Go.Proofs.Ytgpabckipmhobaa
open Go.RowKit
section
variable {P : Program} {ops : Array Oper} {Q : Exit → Act → World → Prop} {rel : Nat → World → World → Prop} {D : List Nat} {W : World}

theorem mk_swap (m i k : Nat) (l : List Nat) : mk m (i :: k :: l) = mk m (k :: i :: l) := by
  by_cases h : i = k
  · subst h; rfl
  · show ((mk m l).setIfInBounds k true).setIfInBounds i true = ((mk m l).setIfInBounds i true).setIfInBounds k true
    exact Array.setIfInBounds_comm _ _ (fun e => h e.symm)

end
section
variable {P : Program} {l : List Oper} {Q : Exit → Act → World → Prop} {D : List Nat} {W w : World} {L : List (Nat × List Value)} {a : Act} {B : Nat} {mid hard : List Nat} {done : List Nat}

end
end Go.Proofs.Ytgpabckipmhobaa
namespace Go.Proofs.Ytgpabckipmhobaa
open Go.RowKit
section
variable {P : Program} {ops : Array Oper} {Q : Exit → Act → World → Prop} {rel : Nat → World → World → Prop} {D : List Nat} {W w : World} {L : List (Nat × List Value)} {a : Act} {done : List Nat}

theorem mk_perm {m : Nat} {l l' : List Nat} (h : l.Perm l') : mk m l = mk m l' := by
  induction h with
  | nil => rfl
  | cons x _ ih => show (mk m _).setIfInBounds x true = (mk m _).setIfInBounds x true; rw [ih]
  | swap x y l => exact mk_swap m y x l
  | trans _ _ ih1 ih2 => exact ih1.trans ih2
/-- Whatever of ks is left may come now, and nothing else. -/
def freesB (ops : Array Oper) : Nat → List Nat → List Nat → Bool
  | 0, _, _ => true
  | f + 1, done, ks => ks.isEmpty || ((Region.ready .any ops (mk ops.size done)).all ks.contains && !(Region.ready .any ops (mk ops.size done)).isEmpty && ks.all fun k => (Region.ready .any ops (mk ops.size done)).contains k && freesB ops f (k :: done) (ks.erase k))
/-- Operation k.1 makes a new variable, which it puts into slot k.2.1, and which holds k.2.2. -/
def FreeAl (P : Program) (ops : Array Oper) (k : Nat × Nat × List Value) : Prop := ∃ ok t, ops[k.1]? = some ok ∧ ok.guard = none ∧ ok.op = .alloc t ∧ ok.dst = some k.2.1 ∧ ZeroTy P t k.2.2
inductive FreesAl (P : Program) (ops : Array Oper) : List (Nat × Nat × List Value) → Prop
  | nil : FreesAl P ops []
  | cons {i d : Nat} {t : TypeId} {z : List Value} {ok : Oper} {ks : List (Nat × Nat × List Value)} : ops[i]? = some ok → ok.guard = none → ok.op = .alloc t → ok.dst = some d → ZeroTy P t z → FreesAl P ops ks → FreesAl P ops ((i, d, z) :: ks)
theorem FreesAl.at {ks : List (Nat × Nat × List Value)} (h : FreesAl P ops ks) : ∀ k ∈ ks, FreeAl P ops k := by
  induction h with
  | nil => intro k hk; cases hk
  | cons h1 h2 h3 h4 h5 _ ih =>
    intro k hk
    rcases List.mem_cons.1 hk with rfl | hk
    · exact ⟨_, _, h1, h2, h3, h4, h5⟩
    · exact ih k hk
/-- The frame, the new variables known: f tells their blocks. -/
def putF (f : Nat → Nat) (ks : List (Nat × Nat × List Value)) (a : Act) : Act := ks.foldr (fun k a => a.put (some k.2.1) (.pointer (some ⟨f k.1, 0, none⟩))) a
def ownF (f : Nat → Nat) (ks : List (Nat × Nat × List Value)) : List (Nat × List Value) := ks.map fun k => (f k.1, k.2.2)
theorem putF_cons (f : Nat → Nat) (k : Nat × Nat × List Value) (ks : List (Nat × Nat × List Value)) (a : Act) : putF f (k :: ks) a = (putF f ks a).put (some k.2.1) (.pointer (some ⟨f k.1, 0, none⟩)) := rfl
theorem ownF_cons (f : Nat → Nat) (k : Nat × Nat × List Value) (ks : List (Nat × Nat × List Value)) : ownF f (k :: ks) = (f k.1, k.2.2) :: ownF f ks := rfl
theorem putF_perm {f : Nat → Nat} {ks js : List (Nat × Nat × List Value)} (h : ks.Perm js) (hd : (ks.map (·.2.1)).Nodup) (a : Act) : putF f ks a = putF f js a := by
  refine List.Perm.foldr_eq' h (fun x hx y hy z => ?_) a
  by_cases he : x = y
  · subst he; rfl
  · refine Act.put_comm z _ _ fun d h1 h2 => he ?_
    injection h1 with h1
    injection h2 with h2
    obtain ⟨i, hi⟩ := List.mem_iff_getElem?.1 hx
    obtain ⟨j, hj⟩ := List.mem_iff_getElem?.1 hy
    have e1 : (ks.map (·.2.1))[i]? = some x.2.1 := by rw [List.getElem?_map, hi]; rfl
    have e2 : (ks.map (·.2.1))[j]? = some x.2.1 := by rw [List.getElem?_map, hj]; simp [h1, h2]
    obtain rfl := (List.getElem?_inj (List.getElem?_eq_some_iff.1 e1).1 hd).1 (e1.trans e2.symm)
    rw [hi] at hj
    exact Option.some.inj hj
theorem ownF_upd {f : Nat → Nat} {i b : Nat} {js : List (Nat × Nat × List Value)} (h : i ∉ js.map (·.1)) : ownF (fun x => if x = i then b else f x) js = ownF f js := by
  unfold ownF
  refine List.map_congr_left fun k hk => ?_
  have : k.1 ≠ i := fun e => h (e ▸ List.mem_map_of_mem hk)
  simp [this]
theorem putF_upd {f : Nat → Nat} {i b : Nat} {a : Act} : ∀ {js : List (Nat × Nat × List Value)}, i ∉ js.map (·.1) → putF (fun x => if x = i then b else f x) js a = putF f js a := by
  intro js
  induction js with
  | nil => intro _; rfl
  | cons k js ih =>
    intro h
    simp only [List.map_cons, List.mem_cons, not_or] at h
    have hk : k.1 ≠ i := fun e => h.1 e.symm
    rw [putF_cons, putF_cons, ih h.2]
    simp [hk]

theorem frees_go {n : Nat} {all : List (Nat × Nat × List Value)} (hal : ∀ k ∈ all, FreeAl P ops k) (hni : (all.map (·.1)).Nodup) (hnd : (all.map (·.2.1)).Nodup) (hrel : ∀ k ∈ all, ∀ w w', Below w.heap.size w w' → rel k.1 w w')
    (hfin : ∀ f w', Closed ops (mk ops.size (all.map (·.1) ++ done)) → Own D W (ownF f all ++ L) w' → wpK P ops Q rel n (mk ops.size (all.map (·.1) ++ done)) (putF f all a) w') :
    ∀ (len : Nat) (ks js : List (Nat × Nat × List Value)) (f : Nat → Nat) (w : World), ks.length = len → (js ++ ks).Perm all → freesB ops len (js.map (·.1) ++ done) (ks.map (·.1)) = true → Closed ops (mk ops.size (js.map (·.1) ++ done)) → Own D W (ownF f js ++ L) w →
      wpK P ops Q rel (n + len) (mk ops.size (js.map (·.1) ++ done)) (putF f js a) w := by
  intro len
  induction len with
  | zero =>
    intro ks js f w hl hp _ hcl hS
    obtain rfl : ks = [] := List.length_eq_zero_iff.1 hl
    rw [List.append_nil] at hp
    have hq : mk ops.size (js.map (·.1) ++ done) = mk ops.size (all.map (·.1) ++ done) := mk_perm ((hp.map _).append_right _)
    rw [hq, putF_perm hp ((hp.map _).nodup_iff.2 hnd)]
    exact hfin f w (hq ▸ hcl) (hS.perm ((hp.map _).append_right _))
  | succ len ih =>
    intro ks js f w hl hp hB hcl hS
    have hne : (ks.map (·.1)).isEmpty = false := by cases ks <;> simp_all
    simp only [freesB, hne, Bool.false_or, Bool.and_eq_true] at hB
    obtain ⟨⟨h1, h2⟩, h3⟩ := hB
    refine ⟨fun h0 => by rw [h0] at h2; simp at h2, fun i hi => ?_⟩
    have h4 := List.all_eq_true.1 h1 i hi
    obtain ⟨k, hk, rfl⟩ := List.mem_map.1 (by simpa using h4 : i ∈ ks.map (·.1))
    have h5 := List.all_eq_true.1 h3 k.1 (List.mem_map_of_mem hk)
    simp only [Bool.and_eq_true] at h5
    obtain ⟨s, t, rfl⟩ := List.append_of_mem hk
    have hka : k ∈ all := hp.subset (by simp)
    obtain ⟨ok, ty, e1, e2, e3, e4, Z⟩ := hal k hka
    have hnp : ((js ++ (s ++ k :: t)).map (·.1)).Nodup := (hp.map _).nodup_iff.2 hni
    have hp' : ((k :: js) ++ (s ++ t)).Perm (js ++ (s ++ k :: t)) := by
      rw [← List.append_assoc, ← List.append_assoc]
      exact (List.perm_middle (a := k) (l₁ := js ++ s) (l₂ := t)).symm
    have hnk : (((k :: js) ++ (s ++ t)).map (·.1)).Nodup := (hp'.map _).nodup_iff.2 hnp
    simp only [List.cons_append, List.map_cons, List.nodup_cons, List.map_append, List.mem_append, not_or] at hnk
    have hjs := hnk.1.1
    have hsn := hnk.1.2.1
    refine point_go k.1 e1 (own_alloc e2 ty e3 (own_start w) Z fun b w' h6 => ?_)
    unfold wpList
    refine ⟨rfl, hrel k hka _ _ h6.below, fun w'' hb => ?_⟩
    have h7 := ih (s ++ t) (k :: js) (fun x => if x = k.1 then b else f x) w'' (by simp at hl ⊢; omega) (hp'.trans hp) (by
      have h8 := h5.2
      rw [List.map_append, List.map_cons, List.erase_append_right _ hsn, List.erase_cons_head] at h8
      rw [List.map_append]
      exact h8) (hcl.set hi) (by
      rw [ownF_cons, ownF_upd hjs]
      simpa using (hS.join h6).step hb)
    have h9 : putF (fun x => if x = k.1 then b else f x) (k :: js) a = (putF f js a).put ok.dst (.pointer (some ⟨b, 0, none⟩)) := by
      rw [putF_cons, putF_upd hjs, e4]
      simp
    rw [h9] at h7
    exact h7
end
section
variable {P : Program} {l : List Oper} {Q : Exit → Act → World → Prop} {D : List Nat} {W w : World} {L : List (Nat × List Value)} {a : Act} {B : Nat} {mid hard : List Nat} {done : List Nat}
/-- What is to be checked. -/
def freeB (ops : Array Oper) (soft : Nat → Bool) (done : List Nat) (ks : List (Nat × Nat)) : Bool := freesB ops ks.length done (ks.map (·.1)) && decide ((ks.map (·.1)).Nodup) && decide ((ks.map (·.2)).Nodup) && ks.all (fun k => soft k.1)
/-- New variables, made in any order; n operations remain behind. -/
theorem own_frees (hS : Own D W L w) (ks : List (Nat × Nat × List Value)) (n : Nat) {m : Nat} (hmn : n + ks.length = m) (hal : FreesAl P l.toArray ks) (hcl : Closed l.toArray (mk l.toArray.size done))
    (hB : freeB l.toArray (fun i => !hard.contains i && !mid.contains i) done (ks.map fun k => (k.1, k.2.1)) = true)
    (h : ∀ f w', Closed l.toArray (mk l.toArray.size (ks.map (·.1) ++ done)) → Own D W (ownF f ks ++ L) w' → wpK P l.toArray Q (relOf B mid hard) n (mk l.toArray.size (ks.map (·.1) ++ done)) (putF f ks a) w') :
    wpK P l.toArray Q (relOf B mid hard) m (mk l.toArray.size done) a w := by
  subst hmn
  simp only [freeB, Bool.and_eq_true, decide_eq_true_eq, List.map_map, List.length_map] at hB
  obtain ⟨⟨⟨h1, h2⟩, h3⟩, h4⟩ := hB
  refine frees_go (P := P) (Q := Q) (D := D) (W := W) (L := L) (a := a) hal.at h2 h3 (fun k hk w w' hb => ?_) (fun f w' hc hO => h f w' hc hO) ks.length ks [] (fun _ => 0) w rfl (List.Perm.refl _) h1 hcl hS
  rw [relOf_soft (List.all_eq_true.1 h4 (k.1, k.2.1) (List.mem_map_of_mem (f := fun k : Nat × Nat × List Value => (k.1, k.2.1)) hk))]
  exact hb
end
end Go.Proofs.Ytgpabckipmhobaa
