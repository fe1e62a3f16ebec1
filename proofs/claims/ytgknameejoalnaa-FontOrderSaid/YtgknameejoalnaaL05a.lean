/- The laws FontScaled and FontGrows: what their calls return. -/
import Derived.Test.YtgknameejoalnaaScalR
import Derived.Test.YtgknameejoalnaaLaw
import Derived.Deep.DeepCutAuto
namespace Go.Proofs.Ytgknameejoalnaa
open Go.RowKit

def xG : Gly := { name := ⟨#[120]⟩, w := 500, h := 431, d := -11, it := 0, at_ := 0 }
theorem awake_val : gePair (scaledG xG 70) (scaledErr xG 70) = .tuple #[.agg #[.string ⟨#[120]⟩, .int .i64 350, .int .i64 302, .int .i64 (-8), .int .i64 0, .int .i64 0], .int .i64 0] := by kernel_rfl

set_option maxHeartbeats 400000 in
theorem awake05_calls (w : World) : Calls Try.prog 10 #[] w (Gives (.bool true) w) := by
  go_enter Try.func10, Try.ntmps10
  go_wp2_with fail
  refine (font_Scaled_calls xG 70 _).mono ?_
  rw [awake_val]
  rintro e w1 ⟨rfl, hb⟩
  go_wp2_with fail
  go_ret
  exact ⟨rfl, bnew (bthen (bself w) hb) _⟩

set_option maxHeartbeats 2000000 in
theorem scaledLaw (g s : Gly) (p E : Int) (w : World)
    (H : ∀ w, Calls Try.prog 11 #[.agg #[.string g.name, .int .i64 g.w, .int .i64 g.h, .int .i64 g.d, .int .i64 g.it, .int .i64 g.at_], .int .i64 p] w (Gives (.tuple #[.agg #[.string s.name, .int .i64 s.w, .int .i64 s.h, .int .i64 s.d, .int .i64 s.it, .int .i64 s.at_], .int .i64 E]) w))
    (G : ∀ w, Calls Try.prog 12 #[.agg #[.string g.name, .int .i64 g.w, .int .i64 g.h, .int .i64 g.d, .int .i64 g.it, .int .i64 g.at_], .int .i64 p] w (Gives (.tuple #[.agg #[.string s.name, .int .i64 s.w, .int .i64 s.h, .int .i64 s.d, .int .i64 s.it, .int .i64 s.at_], .int .i64 E]) w)) :
    Calls Try.prog 4 #[.agg #[.string g.name, .int .i64 g.w, .int .i64 g.h, .int .i64 g.d, .int .i64 g.it, .int .i64 g.at_], .int .i64 p] w (Gives (.bool true) w) := by
  have HH := Lib.hid H
  have GG := Lib.hid G
  clear H G
  go_enter Try.func4, Try.ntmps4
  go_wp2_with fail
  refine (awake05_calls _).mono ?_
  rintro e w1 ⟨rfl, hb⟩
  have c0 := hb.cell (p := ⟨w.heap.size, 0, none⟩) (by go_size)
  have c1 := hb.cell (p := ⟨w.heap.size, 1, none⟩) (by go_size)
  have c2 := hb.cell (p := ⟨w.heap.size, 2, none⟩) (by go_size)
  have c3 := hb.cell (p := ⟨w.heap.size, 3, none⟩) (by go_size)
  have c4 := hb.cell (p := ⟨w.heap.size, 4, none⟩) (by go_size)
  have c5 := hb.cell (p := ⟨w.heap.size, 5, none⟩) (by go_size)
  simp [go_sem] at c0 c1 c2 c3 c4 c5
  have hz1 := lt_more (show w.heap.size < w1.heap.size by have := hb.size; simp at this; omega)
  go_wp2_with fail
  refine (HH.out _).mono ?_
  rintro e w2 ⟨rfl, hb2⟩
  have d0 := hb2.cell (p := ⟨w.heap.size, 0, none⟩) (by go_size)
  have d1 := hb2.cell (p := ⟨w.heap.size, 1, none⟩) (by go_size)
  have d2 := hb2.cell (p := ⟨w.heap.size, 2, none⟩) (by go_size)
  have d3 := hb2.cell (p := ⟨w.heap.size, 3, none⟩) (by go_size)
  have d4 := hb2.cell (p := ⟨w.heap.size, 4, none⟩) (by go_size)
  have d5 := hb2.cell (p := ⟨w.heap.size, 5, none⟩) (by go_size)
  simp [go_sem, c0, c1, c2, c3, c4, c5] at d0 d1 d2 d3 d4 d5
  have hz2 := lt_more (show w.heap.size < w2.heap.size by have := hb2.size; omega)
  go_wp2_with fail
  refine (GG.out _).mono ?_
  rintro e w3 ⟨rfl, hb3⟩
  have e0 := hb3.cell (p := ⟨w.heap.size, 0, none⟩) (by go_size)
  have e1 := hb3.cell (p := ⟨w.heap.size, 1, none⟩) (by go_size)
  have e2 := hb3.cell (p := ⟨w.heap.size, 2, none⟩) (by go_size)
  have e3 := hb3.cell (p := ⟨w.heap.size, 3, none⟩) (by go_size)
  have e4 := hb3.cell (p := ⟨w.heap.size, 4, none⟩) (by go_size)
  have e5 := hb3.cell (p := ⟨w.heap.size, 5, none⟩) (by go_size)
  have f0 := hb3.cell (p := ⟨w2.heap.size, 0, none⟩) (by go_size)
  have f1 := hb3.cell (p := ⟨w2.heap.size, 1, none⟩) (by go_size)
  have f2 := hb3.cell (p := ⟨w2.heap.size, 2, none⟩) (by go_size)
  have f3 := hb3.cell (p := ⟨w2.heap.size, 3, none⟩) (by go_size)
  have f4 := hb3.cell (p := ⟨w2.heap.size, 4, none⟩) (by go_size)
  have f5 := hb3.cell (p := ⟨w2.heap.size, 5, none⟩) (by go_size)
  simp [go_sem, d0, d1, d2, d3, d4, d5, hz2] at e0 e1 e2 e3 e4 e5 f0 f1 f2 f3 f4 f5
  have hz3 := lt_more (show w.heap.size < w3.heap.size by have := hb3.size; simp at this; omega)
  have hz4 := lt_more (show w2.heap.size < w3.heap.size by have := hb3.size; simp at this; omega)
  have hbw := bthen (bnew (bthen (bthen (bnew (bself w) _) hb) hb2) _) hb3
  clear c0 c1 c2 c3 c4 c5 d0 d1 d2 d3 d4 d5 hb hb2 hb3 hz1 hz2
  go_wp2_with fail
  refine wp_region_cls [(⟨w.heap.size, 0, none⟩, .string g.name), (⟨w.heap.size, 1, none⟩, .int .i64 g.w), (⟨w.heap.size, 2, none⟩, .int .i64 g.h), (⟨w.heap.size, 3, none⟩, .int .i64 g.d), (⟨w.heap.size, 4, none⟩, .int .i64 g.it), (⟨w.heap.size, 5, none⟩, .int .i64 g.at_),
    (⟨w2.heap.size, 0, none⟩, .string s.name), (⟨w2.heap.size, 1, none⟩, .int .i64 s.w), (⟨w2.heap.size, 2, none⟩, .int .i64 s.h), (⟨w2.heap.size, 3, none⟩, .int .i64 s.d), (⟨w2.heap.size, 4, none⟩, .int .i64 s.it), (⟨w2.heap.size, 5, none⟩, .int .i64 s.at_),
    (⟨w3.heap.size, 0, none⟩, .string s.name), (⟨w3.heap.size, 1, none⟩, .int .i64 s.w), (⟨w3.heap.size, 2, none⟩, .int .i64 s.h), (⟨w3.heap.size, 3, none⟩, .int .i64 s.d), (⟨w3.heap.size, 4, none⟩, .int .i64 s.it), (⟨w3.heap.size, 5, none⟩, .int .i64 s.at_)]
    (by kernel_rfl) (by kernel_rfl) (by simp [go_sem, e0, e1, e2, e3, e4, e5, f0, f1, f2, f3, f4, f5, hz3, hz4]) (fun C hC => ?_)
  repeat (first
      | (refine quiet_plain (by with_reducible rfl) ?_
         apply Exists.intro
         refine ⟨?_, ?_⟩
         focus (intro wq hq; have hc := hC.cells _ hq; simp at hc; go_simp; first | (go_at_call 13; exact hC.call hq (font_Height_calls g _)) | (with_reducible rfl))
         simp only [Act.put, List.setIfInBounds_toArray, List.set_cons_zero, List.set_cons_succ])
      | (refine quiet_at (by with_reducible rfl) (by rfl) (by rfl) (by simp only [List.getElem?_toArray, List.getElem?_cons_succ, List.getElem?_cons_zero]; rfl) ?_
         first | (with_reducible refine QG_tt ?_) | (with_reducible refine QG_ff ?_)
         apply Exists.intro
         refine ⟨?_, ?_⟩
         focus (intro wq hq; have hc := hC.cells _ hq; simp at hc; go_simp; first | (go_at_call 13; exact hC.call hq (font_Height_calls g _)) | (with_reducible rfl))
         simp only [Act.put, List.setIfInBounds_toArray, List.set_cons_zero, List.set_cons_succ])
      | (refine quiet_at (by with_reducible rfl) (by rfl) (by rfl) (by simp only [List.getElem?_toArray, List.getElem?_cons_succ, List.getElem?_cons_zero]; rfl) ?_
         first | (with_reducible refine QG_tf ?_) | (with_reducible refine QG_ft ?_) | (with_reducible refine QG_u ?_)
         simp only [Act.put, List.setIfInBounds_toArray, List.set_cons_zero, List.set_cons_succ]))
  refine wpQuiet_nil ?_
  intro wz hz
  have hbz := hC.below _ hz
  go_wp2_with fail
  go_ret
  exact ⟨ret_bool (by simp [IntKind.wrap_i64, wrap64]), bthen (bnew hbw _) hbz⟩

theorem fontScaled_calls (g : Gly) (p : Int) (w : World) :
    Calls Try.prog 4 #[.agg #[.string g.name, .int .i64 g.w, .int .i64 g.h, .int .i64 g.d, .int .i64 g.it, .int .i64 g.at_], .int .i64 p] w (Gives (.bool true) w) :=
  scaledLaw g (scaledG g p) p (scaledErr g p) w (fun w => font_Scaled_calls g p w) (fun w => ref05_Scaled_calls g p w)

/-- A glyph does not get smaller, nor changes a sign. -/
def grows (x y : Int) : Prop := ¬ (0 < x ∧ y < x) ∧ ¬ (x < 0 ∧ x < y)
theorem scl_grows (n p q : Int) (hn : -20000 ≤ n ∧ n ≤ 20000) (hp : 1 ≤ p ∧ p ≤ q ∧ q ≤ 1000) : grows (scl n p) (scl n q) := by
  rw [scl_ok (by omega) (by omega) (by omega), scl_ok (by omega) (by omega) (by omega)]
  unfold rdiv grows
  by_cases h : 0 ≤ n
  · have h1 : 0 ≤ n * p := Int.mul_nonneg h (by omega)
    have h2 : n * p ≤ n * q := Int.mul_le_mul_of_nonneg_left hp.2.1 h
    rw [if_pos h1, if_pos (by omega)]
    omega
  · have h1 : n * p < 0 := Int.mul_neg_of_neg_of_pos (by omega) (by omega)
    have h2 : n * q ≤ n * p := Int.mul_le_mul_of_nonpos_left (by omega) hp.2.1
    rw [if_neg (by omega), if_neg (by omega)]
    omega
theorem scl_hundred (n : Int) (hn : -20000 ≤ n ∧ n ≤ 20000) : scl n 100 = n := by
  rw [scl_ok (by omega) (by omega) (by omega)]
  unfold rdiv
  split <;> omega

set_option maxHeartbeats 4000000 in
set_option maxRecDepth 100000 in
theorem grows_err (g : Gly) (p q : Int) (w : World) (hm : metricsOk g = false) (hp : 0 ≤ p ∧ p ≤ 65535) (hq : 0 ≤ q ∧ q ≤ 65535) :
    Calls Try.prog 3 #[.agg #[.string g.name, .int .i64 g.w, .int .i64 g.h, .int .i64 g.d, .int .i64 g.it, .int .i64 g.at_], .int .u16 p, .int .u16 q] w (Gives (.bool true) w) := by
  have HE := Lib.hid (show ∀ r, 1 ≤ r → r ≤ 1000 → gePair (scaledG g r) (scaledErr g r) = .tuple #[.agg #[.string ⟨#[]⟩, .int .i64 0, .int .i64 0, .int .i64 0, .int .i64 0, .int .i64 0], .int .i64 1] by
    intro r h1 h2
    have e : scaledErr g r = 1 := by unfold scaledErr; rw [if_pos ⟨h1, h2⟩, hm]; rfl
    unfold scaledG; rw [e]; rfl)
  clear hm
  go_enter Try.func3, Try.ntmps3
  go_wp2_with fail
  refine (awake05_calls _).mono ?_
  rintro e w1 ⟨rfl, hb⟩
  have c0 := hb.cell (p := ⟨w.heap.size, 0, none⟩) (by go_size)
  have c1 := hb.cell (p := ⟨w.heap.size, 1, none⟩) (by go_size)
  have c2 := hb.cell (p := ⟨w.heap.size, 2, none⟩) (by go_size)
  have c3 := hb.cell (p := ⟨w.heap.size, 3, none⟩) (by go_size)
  have c4 := hb.cell (p := ⟨w.heap.size, 4, none⟩) (by go_size)
  have c5 := hb.cell (p := ⟨w.heap.size, 5, none⟩) (by go_size)
  simp [go_sem] at c0 c1 c2 c3 c4 c5
  have hz1 := lt_more (show w.heap.size < w1.heap.size by have := hb.size; simp at this; omega)
  have hbw := bthen (bnew (bself w) _) hb
  clear hb
  go_upto_region 3 with fail
  go_cut [7, 8] (fun s7 s8 wx => ∃ a b : Int, s7 = .int .i64 a ∧ s8 = .int .i64 b ∧ 1 ≤ a ∧ a ≤ 1000 ∧ 1 ≤ b ∧ b ≤ 1000 ∧ wx = w1)
  case first =>
    go_wp2_with fail
    all_goals
      go_meet
      exact ⟨_, _, rfl, rfl, by omega, by omega, by omega, by omega, rfl⟩
  case rest =>
  obtain ⟨a, b, rfl, rfl, a0, a1, b0, b1, rfl⟩ := hcut
  clear hp hq
  go_upto_region 4 with fail
  go_cut [7, 8] (fun s7 s8 wx => ∃ x y : Int, s7 = .int .i64 x ∧ s8 = .int .i64 y ∧ 1 ≤ x ∧ x ≤ y ∧ y ≤ 1000 ∧ wx = wc)
  case first =>
    go_wp2_with fail
    all_goals
      go_meet
      exact ⟨_, _, rfl, rfl, by omega, by omega, by omega, rfl⟩
  case rest =>
  obtain ⟨x, y, rfl, rfl, x0, xy, y1, rfl⟩ := hcut
  clear a0 a1 b0 b1
  go_wp2_with fail
  refine (font_Scaled_calls g x _).mono ?_
  rw [HE.out x (by omega) (by omega)]
  rintro e w2 ⟨rfl, hb2⟩
  have d0 := hb2.cell (p := ⟨w.heap.size, 0, none⟩) (by go_size)
  have d1 := hb2.cell (p := ⟨w.heap.size, 1, none⟩) (by go_size)
  have d2 := hb2.cell (p := ⟨w.heap.size, 2, none⟩) (by go_size)
  have d3 := hb2.cell (p := ⟨w.heap.size, 3, none⟩) (by go_size)
  have d4 := hb2.cell (p := ⟨w.heap.size, 4, none⟩) (by go_size)
  have d5 := hb2.cell (p := ⟨w.heap.size, 5, none⟩) (by go_size)
  simp [go_sem, c0, c1, c2, c3, c4, c5] at d0 d1 d2 d3 d4 d5
  have hz2 := lt_more (show w.heap.size < w2.heap.size by have := hb2.size; omega)
  have hbw2 := bthen hbw hb2
  clear c0 c1 c2 c3 c4 c5 hz1 hbw
  go_wp2_with fail
  refine (font_Scaled_calls g y _).mono ?_
  rw [HE.out y (by omega) (by omega)]
  rintro e w3 ⟨rfl, hb3⟩
  have e0 := hb3.cell (p := ⟨w.heap.size, 0, none⟩) (by go_size)
  have e1 := hb3.cell (p := ⟨w.heap.size, 1, none⟩) (by go_size)
  have e2 := hb3.cell (p := ⟨w.heap.size, 2, none⟩) (by go_size)
  have e3 := hb3.cell (p := ⟨w.heap.size, 3, none⟩) (by go_size)
  have e4 := hb3.cell (p := ⟨w.heap.size, 4, none⟩) (by go_size)
  have e5 := hb3.cell (p := ⟨w.heap.size, 5, none⟩) (by go_size)
  simp [go_sem, d0, d1, d2, d3, d4, d5, hz2] at e0 e1 e2 e3 e4 e5
  have hz3 := lt_more (show w.heap.size < w3.heap.size by have := hb3.size; simp at this; omega)
  have hbw3 := bthen (bnew hbw2 _) hb3
  clear d0 d1 d2 d3 d4 d5 hz2 hbw2 hb2
  go_wp2_with fail
  refine (font_Scaled_calls g 100 _).mono ?_
  rw [HE.out 100 (by omega) (by omega)]
  rintro e w4 ⟨rfl, hb4⟩
  go_wp2_with fail
  go_ret
  exact ⟨rfl, bnew (bthen (bnew hbw3 _) hb4) _⟩

end Go.Proofs.Ytgknameejoalnaa
