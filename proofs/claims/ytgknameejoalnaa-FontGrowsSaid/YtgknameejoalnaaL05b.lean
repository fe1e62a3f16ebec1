/- The law FontGrows where the metrics are good. -/
import Derived.Test.YtgknameejoalnaaL05a
namespace Go.Proofs.Ytgknameejoalnaa
open Go.RowKit

attribute [local irreducible] wpQuiet

theorem loop_meas {k n : Nat} (h : k < n) : n - (intOf (.int .i64 ((k : Int) + 1))).toNat < n - (intOf (.int .i64 (k : Int))).toNat := by
  simp [intOf]; omega
theorem le_not_lt {k n : Nat} (h : k ≤ n) (h' : ¬ k < n) : k = n := by omega
theorem dec_three {n m : Int} (hcase : (0 < n ∧ n ≤ m) ∨ (n = 0) ∨ (n < 0 ∧ m ≤ n)) : (decide (0 < n) = true ∧ decide (m < n) = false ∧ decide (n < 0) = false) ∨ (decide (0 < n) = false ∧ decide (n < 0) = false) ∨ (decide (0 < n) = false ∧ decide (n < 0) = true ∧ decide (n < m) = false) := by
  rcases hcase with ⟨u1, u2⟩ | u1 | ⟨u1, u2⟩
  · exact .inl ⟨by simpa using u1, by simpa using u2, by simp; omega⟩
  · exact .inr (.inl ⟨by simp; omega, by simp; omega⟩)
  · exact .inr (.inr ⟨by simp; omega, by simpa using u1, by simpa using u2⟩)

set_option maxHeartbeats 4000000 in
set_option maxRecDepth 100000 in
theorem grows_ok (g : Gly) (p q : Int) (w : World) (hm : metricsOk g = true) (hp : 0 ≤ p ∧ p ≤ 65535) (hq : 0 ≤ q ∧ q ≤ 65535) :
    Calls Try.prog 3 #[.agg #[.string g.name, .int .i64 g.w, .int .i64 g.h, .int .i64 g.d, .int .i64 g.it, .int .i64 g.at_], .int .u16 p, .int .u16 q] w (Gives (.bool true) w) := by
  have HE := Lib.hid (show ∀ r, 1 ≤ r → r ≤ 1000 → gePair (scaledG g r) (scaledErr g r) = .tuple #[.agg #[.string g.name, .int .i64 (scl g.w r), .int .i64 (scl g.h r), .int .i64 (scl g.d r), .int .i64 (scl g.it r), .int .i64 (scl g.at_ r)], .int .i64 0] by
    intro r h1 h2
    have e : scaledErr g r = 0 := by unfold scaledErr; rw [if_pos ⟨h1, h2⟩, hm]; rfl
    unfold scaledG; rw [e]; rfl)
  have HB := Lib.hid (metricsOk_bd hm)
  clear hm
  go_enter Try.func3, Try.ntmps3
  go_wp2_with fail
  refine (awake05_calls _).mono ?_
  rintro e w1 ⟨rfl, hb⟩
  have c0 := hb.cell (p := ⟨w.heap.size, 0, none⟩) (by go_size)
  have c1 := hb.cell (p := ⟨w.heap.size, 1, none⟩) (by go_size)
  have c2 := hb.cell (p := ⟨w.heap.size, 2, none⟩) (by go_size)
  have c3 := hb.cell (p := ⟨w.heap.size, 3, none⟩) (by go_size)
  have c4 := hb.cell (p := ⟨w.heap.size, 4, none⟩) (by go_size)
  have c5 := hb.cell (p := ⟨w.heap.size, 5, none⟩) (by go_size)
  simp [go_sem] at c0 c1 c2 c3 c4 c5
  have hz1 := lt_more (show w.heap.size < w1.heap.size by have := hb.size; simp at this; omega)
  have hbw := bthen (bnew (bself w) _) hb
  clear hb
  go_upto_region 3 with fail
  go_cut [7, 8] (fun s7 s8 wx => ∃ a b : Int, s7 = .int .i64 a ∧ s8 = .int .i64 b ∧ 1 ≤ a ∧ a ≤ 1000 ∧ 1 ≤ b ∧ b ≤ 1000 ∧ wx = w1)
  case first =>
    go_wp2_with fail
    all_goals
      go_meet
      exact ⟨_, _, rfl, rfl, by omega, by omega, by omega, by omega, rfl⟩
  case rest =>
  obtain ⟨a, b, rfl, rfl, a0, a1, b0, b1, rfl⟩ := hcut
  clear hp hq
  go_upto_region 4 with fail
  go_cut [7, 8] (fun s7 s8 wx => ∃ x y : Int, s7 = .int .i64 x ∧ s8 = .int .i64 y ∧ 1 ≤ x ∧ x ≤ y ∧ y ≤ 1000 ∧ wx = wc)
  case first =>
    go_wp2_with fail
    all_goals
      go_meet
      exact ⟨_, _, rfl, rfl, by omega, by omega, by omega, rfl⟩
  case rest =>
  obtain ⟨x, y, rfl, rfl, x0, xy, y1, rfl⟩ := hcut
  clear a0 a1 b0 b1
  go_wp2_with fail
  refine (font_Scaled_calls g x _).mono ?_
  rw [HE.out x (by omega) (by omega)]
  rintro e w2 ⟨rfl, hb2⟩
  have d0 := hb2.cell (p := ⟨w.heap.size, 0, none⟩) (by go_size)
  have d1 := hb2.cell (p := ⟨w.heap.size, 1, none⟩) (by go_size)
  have d2 := hb2.cell (p := ⟨w.heap.size, 2, none⟩) (by go_size)
  have d3 := hb2.cell (p := ⟨w.heap.size, 3, none⟩) (by go_size)
  have d4 := hb2.cell (p := ⟨w.heap.size, 4, none⟩) (by go_size)
  have d5 := hb2.cell (p := ⟨w.heap.size, 5, none⟩) (by go_size)
  simp [go_sem, c0, c1, c2, c3, c4, c5] at d0 d1 d2 d3 d4 d5
  have hz2 := lt_more (show w.heap.size < w2.heap.size by have := hb2.size; omega)
  have hbw2 := bthen hbw hb2
  clear c0 c1 c2 c3 c4 c5 hz1 hbw
  go_wp2_with fail
  refine (font_Scaled_calls g y _).mono ?_
  rw [HE.out y (by omega) (by omega)]
  rintro e w3 ⟨rfl, hb3⟩
  have e0 := hb3.cell (p := ⟨w.heap.size, 0, none⟩) (by go_size)
  have e1 := hb3.cell (p := ⟨w.heap.size, 1, none⟩) (by go_size)
  have e2 := hb3.cell (p := ⟨w.heap.size, 2, none⟩) (by go_size)
  have e3 := hb3.cell (p := ⟨w.heap.size, 3, none⟩) (by go_size)
  have e4 := hb3.cell (p := ⟨w.heap.size, 4, none⟩) (by go_size)
  have e5 := hb3.cell (p := ⟨w.heap.size, 5, none⟩) (by go_size)
  have f0 := hb3.cell (p := ⟨w2.heap.size, 0, none⟩) (by go_size)
  have f1 := hb3.cell (p := ⟨w2.heap.size, 1, none⟩) (by go_size)
  have f2 := hb3.cell (p := ⟨w2.heap.size, 2, none⟩) (by go_size)
  have f3 := hb3.cell (p := ⟨w2.heap.size, 3, none⟩) (by go_size)
  have f4 := hb3.cell (p := ⟨w2.heap.size, 4, none⟩) (by go_size)
  have f5 := hb3.cell (p := ⟨w2.heap.size, 5, none⟩) (by go_size)
  simp [go_sem, d0, d1, d2, d3, d4, d5, hz2] at e0 e1 e2 e3 e4 e5 f0 f1 f2 f3 f4 f5
  have hz3 := lt_more (show w.heap.size < w3.heap.size by have := hb3.size; simp at this; omega)
  have hz4 := lt_more (show w2.heap.size < w3.heap.size by have := hb3.size; simp at this; omega)
  have hbw3 := bthen (bnew hbw2 _) hb3
  clear d0 d1 d2 d3 d4 d5 hz2 hbw2 hb2
  go_wp2_with fail
  refine (font_Scaled_calls g 100 _).mono ?_
  rw [HE.out 100 (by omega) (by omega), scl_hundred g.w HB.out.1, scl_hundred g.h HB.out.2.1, scl_hundred g.d HB.out.2.2.1, scl_hundred g.it HB.out.2.2.2.1, scl_hundred g.at_ HB.out.2.2.2.2]
  rintro e w4 ⟨rfl, hb4⟩
  have i0 := hb4.cell (p := ⟨w.heap.size, 0, none⟩) (by go_size)
  have i1 := hb4.cell (p := ⟨w.heap.size, 1, none⟩) (by go_size)
  have i2 := hb4.cell (p := ⟨w.heap.size, 2, none⟩) (by go_size)
  have i3 := hb4.cell (p := ⟨w.heap.size, 3, none⟩) (by go_size)
  have i4 := hb4.cell (p := ⟨w.heap.size, 4, none⟩) (by go_size)
  have i5 := hb4.cell (p := ⟨w.heap.size, 5, none⟩) (by go_size)
  have j0 := hb4.cell (p := ⟨w2.heap.size, 0, none⟩) (by go_size)
  have j1 := hb4.cell (p := ⟨w2.heap.size, 1, none⟩) (by go_size)
  have j2 := hb4.cell (p := ⟨w2.heap.size, 2, none⟩) (by go_size)
  have j3 := hb4.cell (p := ⟨w2.heap.size, 3, none⟩) (by go_size)
  have j4 := hb4.cell (p := ⟨w2.heap.size, 4, none⟩) (by go_size)
  have j5 := hb4.cell (p := ⟨w2.heap.size, 5, none⟩) (by go_size)
  have k0 := hb4.cell (p := ⟨w3.heap.size, 0, none⟩) (by go_size)
  have k1 := hb4.cell (p := ⟨w3.heap.size, 1, none⟩) (by go_size)
  have k2 := hb4.cell (p := ⟨w3.heap.size, 2, none⟩) (by go_size)
  have k3 := hb4.cell (p := ⟨w3.heap.size, 3, none⟩) (by go_size)
  have k4 := hb4.cell (p := ⟨w3.heap.size, 4, none⟩) (by go_size)
  have k5 := hb4.cell (p := ⟨w3.heap.size, 5, none⟩) (by go_size)
  simp [go_sem, e0, e1, e2, e3, e4, e5, f0, f1, f2, f3, f4, f5, hz3, hz4] at i0 i1 i2 i3 i4 i5 j0 j1 j2 j3 j4 j5 k0 k1 k2 k3 k4 k5
  have hz5 := lt_more (show w.heap.size < w4.heap.size by have := hb4.size; simp at this; omega)
  have hz6 := lt_more (show w2.heap.size < w4.heap.size by have := hb4.size; simp at this; omega)
  have hz7 := lt_more (show w3.heap.size < w4.heap.size by have := hb4.size; simp at this; omega)
  have hbw4 := bthen (bnew hbw3 _) hb4
  clear e0 e1 e2 e3 e4 e5 f0 f1 f2 f3 f4 f5 hz3 hz4 hbw3 hb4 hb3
  go_upto_region 10 with fail
  go_cut [15, 16] (fun s15 s16 wx => ∃ bx bz : Nat, s15 = .slice (some ⟨bx, 0, none⟩) 5 5 ∧ s16 = .slice (some ⟨bz, 0, none⟩) 5 5 ∧ Below w.heap.size w wx ∧ wx.cell? ⟨w.heap.size, 0, none⟩ = some (.string g.name) ∧ wx.cell? ⟨w.heap.size, 1, none⟩ = some (.int .i64 g.w) ∧ wx.cell? ⟨w.heap.size, 2, none⟩ = some (.int .i64 g.h) ∧ wx.cell? ⟨w.heap.size, 3, none⟩ = some (.int .i64 g.d) ∧ wx.cell? ⟨w.heap.size, 4, none⟩ = some (.int .i64 g.it) ∧ wx.cell? ⟨w.heap.size, 5, none⟩ = some (.int .i64 g.at_) ∧ wx.cell? ⟨w4.heap.size, 0, none⟩ = some (.string g.name) ∧ wx.cell? ⟨w4.heap.size, 1, none⟩ = some (.int .i64 g.w) ∧ wx.cell? ⟨w4.heap.size, 2, none⟩ = some (.int .i64 g.h) ∧ wx.cell? ⟨w4.heap.size, 3, none⟩ = some (.int .i64 g.d) ∧ wx.cell? ⟨w4.heap.size, 4, none⟩ = some (.int .i64 g.it) ∧ wx.cell? ⟨w4.heap.size, 5, none⟩ = some (.int .i64 g.at_) ∧ wx.cell? ⟨bx, 0, none⟩ = some (.int .i64 (scl g.w x)) ∧ wx.cell? ⟨bx, 1, none⟩ = some (.int .i64 (scl g.h x)) ∧ wx.cell? ⟨bx, 2, none⟩ = some (.int .i64 (scl g.d x)) ∧ wx.cell? ⟨bx, 3, none⟩ = some (.int .i64 (scl g.it x)) ∧ wx.cell? ⟨bx, 4, none⟩ = some (.int .i64 (scl g.at_ x)) ∧ wx.cell? ⟨bz, 0, none⟩ = some (.int .i64 (scl g.w y)) ∧ wx.cell? ⟨bz, 1, none⟩ = some (.int .i64 (scl g.h y)) ∧ wx.cell? ⟨bz, 2, none⟩ = some (.int .i64 (scl g.d y)) ∧ wx.cell? ⟨bz, 3, none⟩ = some (.int .i64 (scl g.it y)) ∧ wx.cell? ⟨bz, 4, none⟩ = some (.int .i64 (scl g.at_ y)))
  case first =>
    go_region_held3 (fun w' => w'.cell? ⟨w2.heap.size, 1, none⟩ = some (.int .i64 (scl g.w x)) ∧ w'.cell? ⟨w2.heap.size, 2, none⟩ = some (.int .i64 (scl g.h x)) ∧ w'.cell? ⟨w2.heap.size, 3, none⟩ = some (.int .i64 (scl g.d x)) ∧ w'.cell? ⟨w2.heap.size, 4, none⟩ = some (.int .i64 (scl g.it x)) ∧ w'.cell? ⟨w2.heap.size, 5, none⟩ = some (.int .i64 (scl g.at_ x)) ∧ w'.cell? ⟨w3.heap.size, 1, none⟩ = some (.int .i64 (scl g.w y)) ∧ w'.cell? ⟨w3.heap.size, 2, none⟩ = some (.int .i64 (scl g.h y)) ∧ w'.cell? ⟨w3.heap.size, 3, none⟩ = some (.int .i64 (scl g.d y)) ∧ w'.cell? ⟨w3.heap.size, 4, none⟩ = some (.int .i64 (scl g.it y)) ∧ w'.cell? ⟨w3.heap.size, 5, none⟩ = some (.int .i64 (scl g.at_ y))) (simp [go_sem, j1, j2, j3, j4, j5, k1, k2, k3, k4, k5, hz6, hz7]) (fail)
    all_goals
      go_wp2_with fail
      go_meet
      refine ⟨_, _, rfl, rfl, ?_, ?_⟩
      · exact (bnew (bnew (bnew hbw4 _) _) _).drew
      · simp [go_sem, i0, i1, i2, i3, i4, i5, hz5]
  case rest =>
  obtain ⟨bx, bz, rfl, rfl, hbc, q0, q1, q2, q3, q4, q5, r0, r1, r2, r3, r4, r5, s1, s2, s3, s4, s5, t1, t2, t3, t4, t5⟩ := hcut
  have HX := Lib.hid (show ∀ k : Nat, k < 5 → ∃ n m : Int, wc.cell? ⟨bx, k, none⟩ = some (.int .i64 n) ∧ wc.cell? ⟨bz, k, none⟩ = some (.int .i64 m) ∧ grows n m by
    intro k hk
    have e : k = 0 ∨ k = 1 ∨ k = 2 ∨ k = 3 ∨ k = 4 := by omega
    rcases e with rfl | rfl | rfl | rfl | rfl
    · exact ⟨_, _, s1, t1, scl_grows _ _ _ HB.out.1 ⟨x0, xy, y1⟩⟩
    · exact ⟨_, _, s2, t2, scl_grows _ _ _ HB.out.2.1 ⟨x0, xy, y1⟩⟩
    · exact ⟨_, _, s3, t3, scl_grows _ _ _ HB.out.2.2.1 ⟨x0, xy, y1⟩⟩
    · exact ⟨_, _, s4, t4, scl_grows _ _ _ HB.out.2.2.2.1 ⟨x0, xy, y1⟩⟩
    · exact ⟨_, _, s5, t5, scl_grows _ _ _ HB.out.2.2.2.2 ⟨x0, xy, y1⟩⟩)
  clear s1 s2 s3 s4 s5 t1 t2 t3 t4 t5 i0 i1 i2 i3 i4 i5 j0 j1 j2 j3 j4 j5 k0 k1 k2 k3 k4 k5 hz5 hz6 hz7 hbw4
  go_wp2_with fail
  go_loopw [17] (fun i wr => ∃ k : Nat, k ≤ 5 ∧ i = .int .i64 k ∧ Below wc.heap.size wc wr) (fun i _ => 5 - (intOf i).toNat)
  case atStart => exact ⟨0, by omega, rfl, (bself wc)⟩
  case round =>
    obtain ⟨k, hk, rfl, hbr⟩ := hrel
    by_cases hlt : k < 5
    · obtain ⟨n, m, hn, hm, hg⟩ := HX.out k hlt
      have hcase : (0 < n ∧ n ≤ m) ∨ (n = 0) ∨ (n < 0 ∧ m ≤ n) := by unfold grows at hg; omega
      have hcase' := dec_three hcase
      clear hg hcase
      replace hn := (hbr.cell (World.block_lt_of_cell? wc _ hn)).trans hn
      replace hm := (hbr.cell (World.block_lt_of_cell? wc _ hm)).trans hm
      go_wp2_with fail
      refine wp_region_cls [(⟨bx, k, none⟩, .int .i64 n), (⟨bz, k, none⟩, .int .i64 m)] (by kernel_rfl) (by kernel_rfl) (by simp [hn, hm]) (fun C hC => ?_)
      rcases hcase' with ⟨u1, u2, u3⟩ | ⟨u1, u2⟩ | ⟨u1, u2, u3⟩
      all_goals
        repeat (first
            | (refine quiet_plain (by with_reducible rfl) ?_
               apply Exists.intro
               refine ⟨?_, ?_⟩
               focus (intro wq hq; have hc := hC.cells _ hq; simp at hc; go_simp; first | (with_reducible rfl))
               simp only [Act.put, List.setIfInBounds_toArray, List.set_cons_zero, List.set_cons_succ])
            | (refine quiet_at (by with_reducible rfl) (by rfl) (by rfl) (by simp only [List.getElem?_toArray, List.getElem?_cons_succ, List.getElem?_cons_zero]; rfl) ?_
               first | (with_reducible refine QG_tt ?_) | (with_reducible refine QG_ff ?_)
               apply Exists.intro
               refine ⟨?_, ?_⟩
               focus (intro wq hq; have hc := hC.cells _ hq; simp at hc; go_simp; first | (with_reducible rfl))
               simp only [Act.put, List.setIfInBounds_toArray, List.set_cons_zero, List.set_cons_succ])
            | (refine quiet_at (by with_reducible rfl) (by rfl) (by rfl) (by simp only [List.getElem?_toArray, List.getElem?_cons_succ, List.getElem?_cons_zero]; rfl) ?_
               first | (with_reducible refine QG_tf ?_) | (with_reducible refine QG_ft ?_) | (with_reducible refine QG_u ?_)
               simp only [Act.put, List.setIfInBounds_toArray, List.set_cons_zero, List.set_cons_succ]))
        refine wpQuiet_nil ?_
        intro wz hz
        have hbz := hC.below _ hz
        clear hC hz
        go_wp2_with fail
        go_roundw
        case rel => exact ⟨k + 1, hlt, by simp, bthen hbr hbz⟩
        case measure => exact loop_meas hlt
    · have hke : k = 5 := le_not_lt hk hlt
      subst hke
      replace q0 := (hbr.cell (World.block_lt_of_cell? wc _ q0)).trans q0
      replace q1 := (hbr.cell (World.block_lt_of_cell? wc _ q1)).trans q1
      replace q2 := (hbr.cell (World.block_lt_of_cell? wc _ q2)).trans q2
      replace q3 := (hbr.cell (World.block_lt_of_cell? wc _ q3)).trans q3
      replace q4 := (hbr.cell (World.block_lt_of_cell? wc _ q4)).trans q4
      replace q5 := (hbr.cell (World.block_lt_of_cell? wc _ q5)).trans q5
      replace r0 := (hbr.cell (World.block_lt_of_cell? wc _ r0)).trans r0
      replace r1 := (hbr.cell (World.block_lt_of_cell? wc _ r1)).trans r1
      replace r2 := (hbr.cell (World.block_lt_of_cell? wc _ r2)).trans r2
      replace r3 := (hbr.cell (World.block_lt_of_cell? wc _ r3)).trans r3
      replace r4 := (hbr.cell (World.block_lt_of_cell? wc _ r4)).trans r4
      replace r5 := (hbr.cell (World.block_lt_of_cell? wc _ r5)).trans r5
      go_wp2_with fail
      go_ret
      exact ⟨rfl, bthen hbc hbr⟩

set_option maxHeartbeats 4000000 in
set_option maxRecDepth 100000 in
theorem grows_bad (g : Gly) (p q : Int) (w : World) (hm : metricsOk g = false) (hp : 0 ≤ p ∧ p ≤ 65535) (hq : 0 ≤ q ∧ q ≤ 65535) :
    Calls Try.prog 3 #[.agg #[.string g.name, .int .i64 g.w, .int .i64 g.h, .int .i64 g.d, .int .i64 g.it, .int .i64 g.at_], .int .u16 p, .int .u16 q] w (Gives (.bool true) w) := by
  have HE := Lib.hid (show ∀ r, 1 ≤ r → r ≤ 1000 → gePair (scaledG g r) (scaledErr g r) = .tuple #[.agg #[.string ⟨#[]⟩, .int .i64 0, .int .i64 0, .int .i64 0, .int .i64 0, .int .i64 0], .int .i64 1] by
    intro r h1 h2
    have e : scaledErr g r = 1 := by unfold scaledErr; rw [if_pos ⟨h1, h2⟩, hm]; rfl
    unfold scaledG; rw [e]; rfl)
  clear hm
  go_enter Try.func3, Try.ntmps3
  go_wp2_with fail
  refine (awake05_calls _).mono ?_
  rintro e w1 ⟨rfl, hb⟩
  have c0 := hb.cell (p := ⟨w.heap.size, 0, none⟩) (by go_size)
  have c1 := hb.cell (p := ⟨w.heap.size, 1, none⟩) (by go_size)
  have c2 := hb.cell (p := ⟨w.heap.size, 2, none⟩) (by go_size)
  have c3 := hb.cell (p := ⟨w.heap.size, 3, none⟩) (by go_size)
  have c4 := hb.cell (p := ⟨w.heap.size, 4, none⟩) (by go_size)
  have c5 := hb.cell (p := ⟨w.heap.size, 5, none⟩) (by go_size)
  simp [go_sem] at c0 c1 c2 c3 c4 c5
  have hz1 := lt_more (show w.heap.size < w1.heap.size by have := hb.size; simp at this; omega)
  have hbw := bthen (bnew (bself w) _) hb
  clear hb
  go_upto_region 3 with fail
  go_cut [7, 8] (fun s7 s8 wx => ∃ a b : Int, s7 = .int .i64 a ∧ s8 = .int .i64 b ∧ 1 ≤ a ∧ a ≤ 1000 ∧ 1 ≤ b ∧ b ≤ 1000 ∧ wx = w1)
  case first =>
    go_wp2_with fail
    all_goals
      go_meet
      exact ⟨_, _, rfl, rfl, by omega, by omega, by omega, by omega, rfl⟩
  case rest =>
  obtain ⟨a, b, rfl, rfl, a0, a1, b0, b1, rfl⟩ := hcut
  clear hp hq
  go_upto_region 4 with fail
  go_cut [7, 8] (fun s7 s8 wx => ∃ x y : Int, s7 = .int .i64 x ∧ s8 = .int .i64 y ∧ 1 ≤ x ∧ x ≤ y ∧ y ≤ 1000 ∧ wx = wc)
  case first =>
    go_wp2_with fail
    all_goals
      go_meet
      exact ⟨_, _, rfl, rfl, by omega, by omega, by omega, rfl⟩
  case rest =>
  obtain ⟨x, y, rfl, rfl, x0, xy, y1, rfl⟩ := hcut
  clear a0 a1 b0 b1
  go_wp2_with fail
  refine (font_Scaled_calls g x _).mono ?_
  rw [HE.out x (by omega) (by omega)]
  rintro e w2 ⟨rfl, hb2⟩
  have d0 := hb2.cell (p := ⟨w.heap.size, 0, none⟩) (by go_size)
  have d1 := hb2.cell (p := ⟨w.heap.size, 1, none⟩) (by go_size)
  have d2 := hb2.cell (p := ⟨w.heap.size, 2, none⟩) (by go_size)
  have d3 := hb2.cell (p := ⟨w.heap.size, 3, none⟩) (by go_size)
  have d4 := hb2.cell (p := ⟨w.heap.size, 4, none⟩) (by go_size)
  have d5 := hb2.cell (p := ⟨w.heap.size, 5, none⟩) (by go_size)
  simp [go_sem, c0, c1, c2, c3, c4, c5] at d0 d1 d2 d3 d4 d5
  have hz2 := lt_more (show w.heap.size < w2.heap.size by have := hb2.size; omega)
  have hbw2 := bthen hbw hb2
  clear c0 c1 c2 c3 c4 c5 hz1 hbw
  go_wp2_with fail
  refine (font_Scaled_calls g y _).mono ?_
  rw [HE.out y (by omega) (by omega)]
  rintro e w3 ⟨rfl, hb3⟩
  have e0 := hb3.cell (p := ⟨w.heap.size, 0, none⟩) (by go_size)
  have e1 := hb3.cell (p := ⟨w.heap.size, 1, none⟩) (by go_size)
  have e2 := hb3.cell (p := ⟨w.heap.size, 2, none⟩) (by go_size)
  have e3 := hb3.cell (p := ⟨w.heap.size, 3, none⟩) (by go_size)
  have e4 := hb3.cell (p := ⟨w.heap.size, 4, none⟩) (by go_size)
  have e5 := hb3.cell (p := ⟨w.heap.size, 5, none⟩) (by go_size)
  simp [go_sem, d0, d1, d2, d3, d4, d5, hz2] at e0 e1 e2 e3 e4 e5
  have hz3 := lt_more (show w.heap.size < w3.heap.size by have := hb3.size; simp at this; omega)
  have hbw3 := bthen (bnew hbw2 _) hb3
  clear d0 d1 d2 d3 d4 d5 hz2 hbw2 hb2
  go_wp2_with fail
  refine (font_Scaled_calls g 100 _).mono ?_
  rw [HE.out 100 (by omega) (by omega)]
  rintro e w4 ⟨rfl, hb4⟩
  have hbw4 := bthen (bnew hbw3 _) hb4
  clear e0 e1 e2 e3 e4 e5 hz3 hbw3 hb4 hb3
  go_wp2_with fail
  go_ret
  refine ⟨rfl, ?_⟩
  repeat (first | (with_reducible exact hbw4) | (with_reducible refine bnew ?_ _))

theorem fontGrows_calls (g : Gly) (p q : Int) (w : World) (hp : 0 ≤ p ∧ p ≤ 65535) (hq : 0 ≤ q ∧ q ≤ 65535) :
    Calls Try.prog 3 #[.agg #[.string g.name, .int .i64 g.w, .int .i64 g.h, .int .i64 g.d, .int .i64 g.it, .int .i64 g.at_], .int .u16 p, .int .u16 q] w (Gives (.bool true) w) := by
  cases hm : metricsOk g with
  | true => exact grows_ok g p q w hm hp hq
  | false => exact grows_bad g p q w hm hp hq

end Go.Proofs.Ytgknameejoalnaa
