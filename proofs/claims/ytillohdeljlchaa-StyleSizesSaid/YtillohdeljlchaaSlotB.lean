/- style.Slot, where it has a slot: one walk for each kind, slot and cramping. -/
import Derived.Test.YtillohdeljlchaaSty
import Derived.Test.YtillohdeljlchaaSlot
namespace Go.Proofs.Ytillohdeljlchaa
open Go.RowKit

set_option maxHeartbeats 1000000 in
theorem slot_9_0_true (l : Int) (w : World) (h0 : 0 ≤ l) (h3 : l ≤ 3) :
    Calls Try.prog 11 #[.int .i64 9, .int .i64 0, .agg #[.int .i64 l, .bool true]] w (Gives (.tuple #[.agg #[.int .i64 (l), .bool true], .int .i64 0]) w) := by
  have hv : (decide (0 ≤ l) && decide (l ≤ 3)) = true := by simp; omega
  go_enter Try.func11, Try.ntmps11
  go_wp2_with fail
  refine (style_Valid_calls _ _ _).mono ?_
  rintro e w' ⟨rfl, rfl⟩
  go_wp2_with fail
  refine (style_rules_calls_9 _).mono ?_
  rintro e w1 ⟨rfl, hb, c0, c1, c2, c3, c4, c5⟩
  simp only [World.size_alloc] at hb c0 c1 c2 c3 c4 c5
  have d0 := hb.cell (p := ⟨w.heap.size, 0, none⟩) (by simp; omega)
  have d1 := hb.cell (p := ⟨w.heap.size, 1, none⟩) (by simp; omega)
  have d2 := hb.cell (p := ⟨w.heap.size + 1, 0, none⟩) (by simp)
  have d3 := hb.cell (p := ⟨w.heap.size + 1, 1, none⟩) (by simp)
  have f2 := hb.frozen (p := ⟨w.heap.size + 1, 0, none⟩) (by simp)
  have f3 := hb.frozen (p := ⟨w.heap.size + 1, 1, none⟩) (by simp)
  simp [go_sem] at d0 d1 d2 d3 f2 f3
  have hz : w.heap.size + 1 + 1 + 1 ≤ w1.heap.size := by simpa using hb.size
  have hbb : Below w.heap.size w w1 := ((((Below.refl _ _).alloc (Nat.le_refl _) _).alloc (by go_size) _).alloc (by go_size) _).trans (hb.mono (by go_size))
  have hz0 : w.heap.size < w1.heap.size := by omega
  have hz1 : w.heap.size + 1 < w1.heap.size := by omega
  have i5 := rules_index_9
  go_wp2_with fail
  refine wp_region_steady (fun w' => ∃ n, w' = World.drewN _ n) 12 (by kernel_rfl) (by kernel_rfl) ⟨1, rfl⟩ ?_
  simp only [List.take_succ_cons, List.take_zero, List.drop_succ_cons, List.drop_zero]
  repeat (quiet_step ((go_at_call 29; exact Calls.quiet_of_same ((style_same_calls _ _).mono fun _ _ ⟨he, hw⟩ => ⟨he, hw.symm⟩))))
  refine wpQuiet_nil ?_
  intro _ hw'
  obtain ⟨nq, hw''⟩ := hw'
  subst hw''
  go_wp2
  refine bodyPost_ret (v := .tuple #[.agg #[.int .i64 (l), .bool true], .int .i64 0]) (by simp [results, Try.results11, go_sem, *]) rfl ⟨rfl, ?_⟩
  refine Below.setCell (Below.setCell (below_drewN (Below.alloc hbb ?_ _) _) ?_ _) ?_ _ <;> go_size

set_option maxHeartbeats 1000000 in
theorem slot_9_0_false (l : Int) (w : World) (h0 : 0 ≤ l) (h3 : l ≤ 3) :
    Calls Try.prog 11 #[.int .i64 9, .int .i64 0, .agg #[.int .i64 l, .bool false]] w (Gives (.tuple #[.agg #[.int .i64 (l), .bool false], .int .i64 0]) w) := by
  have hv : (decide (0 ≤ l) && decide (l ≤ 3)) = true := by simp; omega
  go_enter Try.func11, Try.ntmps11
  go_wp2_with fail
  refine (style_Valid_calls _ _ _).mono ?_
  rintro e w' ⟨rfl, rfl⟩
  go_wp2_with fail
  refine (style_rules_calls_9 _).mono ?_
  rintro e w1 ⟨rfl, hb, c0, c1, c2, c3, c4, c5⟩
  simp only [World.size_alloc] at hb c0 c1 c2 c3 c4 c5
  have d0 := hb.cell (p := ⟨w.heap.size, 0, none⟩) (by simp; omega)
  have d1 := hb.cell (p := ⟨w.heap.size, 1, none⟩) (by simp; omega)
  have d2 := hb.cell (p := ⟨w.heap.size + 1, 0, none⟩) (by simp)
  have d3 := hb.cell (p := ⟨w.heap.size + 1, 1, none⟩) (by simp)
  have f2 := hb.frozen (p := ⟨w.heap.size + 1, 0, none⟩) (by simp)
  have f3 := hb.frozen (p := ⟨w.heap.size + 1, 1, none⟩) (by simp)
  simp [go_sem] at d0 d1 d2 d3 f2 f3
  have hz : w.heap.size + 1 + 1 + 1 ≤ w1.heap.size := by simpa using hb.size
  have hbb : Below w.heap.size w w1 := ((((Below.refl _ _).alloc (Nat.le_refl _) _).alloc (by go_size) _).alloc (by go_size) _).trans (hb.mono (by go_size))
  have hz0 : w.heap.size < w1.heap.size := by omega
  have hz1 : w.heap.size + 1 < w1.heap.size := by omega
  have i5 := rules_index_9
  go_wp2_with fail
  refine wp_region_steady (fun w' => ∃ n, w' = World.drewN _ n) 12 (by kernel_rfl) (by kernel_rfl) ⟨1, rfl⟩ ?_
  simp only [List.take_succ_cons, List.take_zero, List.drop_succ_cons, List.drop_zero]
  repeat (quiet_step ((go_at_call 29; exact Calls.quiet_of_same ((style_same_calls _ _).mono fun _ _ ⟨he, hw⟩ => ⟨he, hw.symm⟩))))
  refine wpQuiet_nil ?_
  intro _ hw'
  obtain ⟨nq, hw''⟩ := hw'
  subst hw''
  go_wp2
  refine bodyPost_ret (v := .tuple #[.agg #[.int .i64 (l), .bool false], .int .i64 0]) (by simp [results, Try.results11, go_sem, *]) rfl ⟨rfl, ?_⟩
  refine Below.setCell (Below.setCell (below_drewN (Below.alloc hbb ?_ _) _) ?_ _) ?_ _ <;> go_size

set_option maxHeartbeats 1000000 in
theorem slot_9_1_true (l : Int) (w : World) (h0 : 0 ≤ l) (h3 : l ≤ 3) :
    Calls Try.prog 11 #[.int .i64 9, .int .i64 1, .agg #[.int .i64 l, .bool true]] w (Gives (.tuple #[.agg #[.int .i64 (2 + l / 2), .bool true], .int .i64 0]) w) := by
  have hv : (decide (0 ≤ l) && decide (l ≤ 3)) = true := by simp; omega
  go_enter Try.func11, Try.ntmps11
  go_wp2_with fail
  refine (style_Valid_calls _ _ _).mono ?_
  rintro e w' ⟨rfl, rfl⟩
  go_wp2_with fail
  refine (style_rules_calls_9 _).mono ?_
  rintro e w1 ⟨rfl, hb, c0, c1, c2, c3, c4, c5⟩
  simp only [World.size_alloc] at hb c0 c1 c2 c3 c4 c5
  have d0 := hb.cell (p := ⟨w.heap.size, 0, none⟩) (by simp; omega)
  have d1 := hb.cell (p := ⟨w.heap.size, 1, none⟩) (by simp; omega)
  have d2 := hb.cell (p := ⟨w.heap.size + 1, 0, none⟩) (by simp)
  have d3 := hb.cell (p := ⟨w.heap.size + 1, 1, none⟩) (by simp)
  have f2 := hb.frozen (p := ⟨w.heap.size + 1, 0, none⟩) (by simp)
  have f3 := hb.frozen (p := ⟨w.heap.size + 1, 1, none⟩) (by simp)
  simp [go_sem] at d0 d1 d2 d3 f2 f3
  have hz : w.heap.size + 1 + 1 + 1 ≤ w1.heap.size := by simpa using hb.size
  have hbb : Below w.heap.size w w1 := ((((Below.refl _ _).alloc (Nat.le_refl _) _).alloc (by go_size) _).alloc (by go_size) _).trans (hb.mono (by go_size))
  have hz0 : w.heap.size < w1.heap.size := by omega
  have hz1 : w.heap.size + 1 < w1.heap.size := by omega
  have i5 := rules_index_9
  go_wp2_with fail
  refine wp_region_steady (fun w' => ∃ n, w' = World.drewN _ n) 12 (by kernel_rfl) (by kernel_rfl) ⟨1, rfl⟩ ?_
  simp only [List.take_succ_cons, List.take_zero, List.drop_succ_cons, List.drop_zero]
  repeat (quiet_step ((go_at_call 30; exact Calls.quiet_of_same ((style_script_calls _ _ h0 h3).mono fun _ _ ⟨he, hw⟩ => ⟨he, hw.symm⟩))))
  refine wpQuiet_nil ?_
  intro _ hw'
  obtain ⟨nq, hw''⟩ := hw'
  subst hw''
  go_wp2
  refine bodyPost_ret (v := .tuple #[.agg #[.int .i64 (2 + l / 2), .bool true], .int .i64 0]) (by simp [results, Try.results11, go_sem, *]) rfl ⟨rfl, ?_⟩
  refine Below.setCell (Below.setCell (below_drewN (Below.alloc hbb ?_ _) _) ?_ _) ?_ _ <;> go_size

set_option maxHeartbeats 1000000 in
theorem slot_9_1_false (l : Int) (w : World) (h0 : 0 ≤ l) (h3 : l ≤ 3) :
    Calls Try.prog 11 #[.int .i64 9, .int .i64 1, .agg #[.int .i64 l, .bool false]] w (Gives (.tuple #[.agg #[.int .i64 (2 + l / 2), .bool true], .int .i64 0]) w) := by
  have hv : (decide (0 ≤ l) && decide (l ≤ 3)) = true := by simp; omega
  go_enter Try.func11, Try.ntmps11
  go_wp2_with fail
  refine (style_Valid_calls _ _ _).mono ?_
  rintro e w' ⟨rfl, rfl⟩
  go_wp2_with fail
  refine (style_rules_calls_9 _).mono ?_
  rintro e w1 ⟨rfl, hb, c0, c1, c2, c3, c4, c5⟩
  simp only [World.size_alloc] at hb c0 c1 c2 c3 c4 c5
  have d0 := hb.cell (p := ⟨w.heap.size, 0, none⟩) (by simp; omega)
  have d1 := hb.cell (p := ⟨w.heap.size, 1, none⟩) (by simp; omega)
  have d2 := hb.cell (p := ⟨w.heap.size + 1, 0, none⟩) (by simp)
  have d3 := hb.cell (p := ⟨w.heap.size + 1, 1, none⟩) (by simp)
  have f2 := hb.frozen (p := ⟨w.heap.size + 1, 0, none⟩) (by simp)
  have f3 := hb.frozen (p := ⟨w.heap.size + 1, 1, none⟩) (by simp)
  simp [go_sem] at d0 d1 d2 d3 f2 f3
  have hz : w.heap.size + 1 + 1 + 1 ≤ w1.heap.size := by simpa using hb.size
  have hbb : Below w.heap.size w w1 := ((((Below.refl _ _).alloc (Nat.le_refl _) _).alloc (by go_size) _).alloc (by go_size) _).trans (hb.mono (by go_size))
  have hz0 : w.heap.size < w1.heap.size := by omega
  have hz1 : w.heap.size + 1 < w1.heap.size := by omega
  have i5 := rules_index_9
  go_wp2_with fail
  refine wp_region_steady (fun w' => ∃ n, w' = World.drewN _ n) 12 (by kernel_rfl) (by kernel_rfl) ⟨1, rfl⟩ ?_
  simp only [List.take_succ_cons, List.take_zero, List.drop_succ_cons, List.drop_zero]
  repeat (quiet_step ((go_at_call 30; exact Calls.quiet_of_same ((style_script_calls _ _ h0 h3).mono fun _ _ ⟨he, hw⟩ => ⟨he, hw.symm⟩))))
  refine wpQuiet_nil ?_
  intro _ hw'
  obtain ⟨nq, hw''⟩ := hw'
  subst hw''
  go_wp2
  refine bodyPost_ret (v := .tuple #[.agg #[.int .i64 (2 + l / 2), .bool true], .int .i64 0]) (by simp [results, Try.results11, go_sem, *]) rfl ⟨rfl, ?_⟩
  refine Below.setCell (Below.setCell (below_drewN (Below.alloc hbb ?_ _) _) ?_ _) ?_ _ <;> go_size

set_option maxHeartbeats 1000000 in
theorem slot_9_2_true (l : Int) (w : World) (h0 : 0 ≤ l) (h3 : l ≤ 3) :
    Calls Try.prog 11 #[.int .i64 9, .int .i64 2, .agg #[.int .i64 l, .bool true]] w (Gives (.tuple #[.agg #[.int .i64 (2 + l / 2), .bool true], .int .i64 0]) w) := by
  have hv : (decide (0 ≤ l) && decide (l ≤ 3)) = true := by simp; omega
  go_enter Try.func11, Try.ntmps11
  go_wp2_with fail
  refine (style_Valid_calls _ _ _).mono ?_
  rintro e w' ⟨rfl, rfl⟩
  go_wp2_with fail
  refine (style_rules_calls_9 _).mono ?_
  rintro e w1 ⟨rfl, hb, c0, c1, c2, c3, c4, c5⟩
  simp only [World.size_alloc] at hb c0 c1 c2 c3 c4 c5
  have d0 := hb.cell (p := ⟨w.heap.size, 0, none⟩) (by simp; omega)
  have d1 := hb.cell (p := ⟨w.heap.size, 1, none⟩) (by simp; omega)
  have d2 := hb.cell (p := ⟨w.heap.size + 1, 0, none⟩) (by simp)
  have d3 := hb.cell (p := ⟨w.heap.size + 1, 1, none⟩) (by simp)
  have f2 := hb.frozen (p := ⟨w.heap.size + 1, 0, none⟩) (by simp)
  have f3 := hb.frozen (p := ⟨w.heap.size + 1, 1, none⟩) (by simp)
  simp [go_sem] at d0 d1 d2 d3 f2 f3
  have hz : w.heap.size + 1 + 1 + 1 ≤ w1.heap.size := by simpa using hb.size
  have hbb : Below w.heap.size w w1 := ((((Below.refl _ _).alloc (Nat.le_refl _) _).alloc (by go_size) _).alloc (by go_size) _).trans (hb.mono (by go_size))
  have hz0 : w.heap.size < w1.heap.size := by omega
  have hz1 : w.heap.size + 1 < w1.heap.size := by omega
  have i5 := rules_index_9
  go_wp2_with fail
  refine wp_region_steady (fun w' => ∃ n, w' = World.drewN _ n) 12 (by kernel_rfl) (by kernel_rfl) ⟨1, rfl⟩ ?_
  simp only [List.take_succ_cons, List.take_zero, List.drop_succ_cons, List.drop_zero]
  repeat (quiet_step ((go_at_call 30; exact Calls.quiet_of_same ((style_script_calls _ _ h0 h3).mono fun _ _ ⟨he, hw⟩ => ⟨he, hw.symm⟩))))
  refine wpQuiet_nil ?_
  intro _ hw'
  obtain ⟨nq, hw''⟩ := hw'
  subst hw''
  go_wp2
  refine bodyPost_ret (v := .tuple #[.agg #[.int .i64 (2 + l / 2), .bool true], .int .i64 0]) (by simp [results, Try.results11, go_sem, *]) rfl ⟨rfl, ?_⟩
  refine Below.setCell (Below.setCell (below_drewN (Below.alloc hbb ?_ _) _) ?_ _) ?_ _ <;> go_size

set_option maxHeartbeats 1000000 in
theorem slot_9_2_false (l : Int) (w : World) (h0 : 0 ≤ l) (h3 : l ≤ 3) :
    Calls Try.prog 11 #[.int .i64 9, .int .i64 2, .agg #[.int .i64 l, .bool false]] w (Gives (.tuple #[.agg #[.int .i64 (2 + l / 2), .bool false], .int .i64 0]) w) := by
  have hv : (decide (0 ≤ l) && decide (l ≤ 3)) = true := by simp; omega
  go_enter Try.func11, Try.ntmps11
  go_wp2_with fail
  refine (style_Valid_calls _ _ _).mono ?_
  rintro e w' ⟨rfl, rfl⟩
  go_wp2_with fail
  refine (style_rules_calls_9 _).mono ?_
  rintro e w1 ⟨rfl, hb, c0, c1, c2, c3, c4, c5⟩
  simp only [World.size_alloc] at hb c0 c1 c2 c3 c4 c5
  have d0 := hb.cell (p := ⟨w.heap.size, 0, none⟩) (by simp; omega)
  have d1 := hb.cell (p := ⟨w.heap.size, 1, none⟩) (by simp; omega)
  have d2 := hb.cell (p := ⟨w.heap.size + 1, 0, none⟩) (by simp)
  have d3 := hb.cell (p := ⟨w.heap.size + 1, 1, none⟩) (by simp)
  have f2 := hb.frozen (p := ⟨w.heap.size + 1, 0, none⟩) (by simp)
  have f3 := hb.frozen (p := ⟨w.heap.size + 1, 1, none⟩) (by simp)
  simp [go_sem] at d0 d1 d2 d3 f2 f3
  have hz : w.heap.size + 1 + 1 + 1 ≤ w1.heap.size := by simpa using hb.size
  have hbb : Below w.heap.size w w1 := ((((Below.refl _ _).alloc (Nat.le_refl _) _).alloc (by go_size) _).alloc (by go_size) _).trans (hb.mono (by go_size))
  have hz0 : w.heap.size < w1.heap.size := by omega
  have hz1 : w.heap.size + 1 < w1.heap.size := by omega
  have i5 := rules_index_9
  go_wp2_with fail
  refine wp_region_steady (fun w' => ∃ n, w' = World.drewN _ n) 12 (by kernel_rfl) (by kernel_rfl) ⟨1, rfl⟩ ?_
  simp only [List.take_succ_cons, List.take_zero, List.drop_succ_cons, List.drop_zero]
  repeat (quiet_step ((go_at_call 30; exact Calls.quiet_of_same ((style_script_calls _ _ h0 h3).mono fun _ _ ⟨he, hw⟩ => ⟨he, hw.symm⟩))))
  refine wpQuiet_nil ?_
  intro _ hw'
  obtain ⟨nq, hw''⟩ := hw'
  subst hw''
  go_wp2
  refine bodyPost_ret (v := .tuple #[.agg #[.int .i64 (2 + l / 2), .bool false], .int .i64 0]) (by simp [results, Try.results11, go_sem, *]) rfl ⟨rfl, ?_⟩
  refine Below.setCell (Below.setCell (below_drewN (Below.alloc hbb ?_ _) _) ?_ _) ?_ _ <;> go_size

set_option maxHeartbeats 1000000 in
theorem slot_10_0_true (l : Int) (w : World) (h0 : 0 ≤ l) (h3 : l ≤ 3) :
    Calls Try.prog 11 #[.int .i64 10, .int .i64 0, .agg #[.int .i64 l, .bool true]] w (Gives (.tuple #[.agg #[.int .i64 (l), .bool true], .int .i64 0]) w) := by
  have hv : (decide (0 ≤ l) && decide (l ≤ 3)) = true := by simp; omega
  go_enter Try.func11, Try.ntmps11
  go_wp2_with fail
  refine (style_Valid_calls _ _ _).mono ?_
  rintro e w' ⟨rfl, rfl⟩
  go_wp2_with fail
  refine (style_rules_calls_10 _).mono ?_
  rintro e w1 ⟨rfl, hb, c0, c1⟩
  simp only [World.size_alloc] at hb c0 c1
  have d0 := hb.cell (p := ⟨w.heap.size, 0, none⟩) (by simp; omega)
  have d1 := hb.cell (p := ⟨w.heap.size, 1, none⟩) (by simp; omega)
  have d2 := hb.cell (p := ⟨w.heap.size + 1, 0, none⟩) (by simp)
  have d3 := hb.cell (p := ⟨w.heap.size + 1, 1, none⟩) (by simp)
  have f2 := hb.frozen (p := ⟨w.heap.size + 1, 0, none⟩) (by simp)
  have f3 := hb.frozen (p := ⟨w.heap.size + 1, 1, none⟩) (by simp)
  simp [go_sem] at d0 d1 d2 d3 f2 f3
  have hz : w.heap.size + 1 + 1 + 1 ≤ w1.heap.size := by simpa using hb.size
  have hbb : Below w.heap.size w w1 := ((((Below.refl _ _).alloc (Nat.le_refl _) _).alloc (by go_size) _).alloc (by go_size) _).trans (hb.mono (by go_size))
  have hz0 : w.heap.size < w1.heap.size := by omega
  have hz1 : w.heap.size + 1 < w1.heap.size := by omega
  have i5 := rules_index_10
  go_wp2_with fail
  refine wp_region_steady (fun w' => ∃ n, w' = World.drewN _ n) 12 (by kernel_rfl) (by kernel_rfl) ⟨1, rfl⟩ ?_
  simp only [List.take_succ_cons, List.take_zero, List.drop_succ_cons, List.drop_zero]
  repeat (quiet_step ((go_at_call 29; exact Calls.quiet_of_same ((style_same_calls _ _).mono fun _ _ ⟨he, hw⟩ => ⟨he, hw.symm⟩))))
  refine wpQuiet_nil ?_
  intro _ hw'
  obtain ⟨nq, hw''⟩ := hw'
  subst hw''
  go_wp2
  refine bodyPost_ret (v := .tuple #[.agg #[.int .i64 (l), .bool true], .int .i64 0]) (by simp [results, Try.results11, go_sem, *]) rfl ⟨rfl, ?_⟩
  refine Below.setCell (Below.setCell (below_drewN (Below.alloc hbb ?_ _) _) ?_ _) ?_ _ <;> go_size

set_option maxHeartbeats 1000000 in
theorem slot_10_0_false (l : Int) (w : World) (h0 : 0 ≤ l) (h3 : l ≤ 3) :
    Calls Try.prog 11 #[.int .i64 10, .int .i64 0, .agg #[.int .i64 l, .bool false]] w (Gives (.tuple #[.agg #[.int .i64 (l), .bool true], .int .i64 0]) w) := by
  have hv : (decide (0 ≤ l) && decide (l ≤ 3)) = true := by simp; omega
  go_enter Try.func11, Try.ntmps11
  go_wp2_with fail
  refine (style_Valid_calls _ _ _).mono ?_
  rintro e w' ⟨rfl, rfl⟩
  go_wp2_with fail
  refine (style_rules_calls_10 _).mono ?_
  rintro e w1 ⟨rfl, hb, c0, c1⟩
  simp only [World.size_alloc] at hb c0 c1
  have d0 := hb.cell (p := ⟨w.heap.size, 0, none⟩) (by simp; omega)
  have d1 := hb.cell (p := ⟨w.heap.size, 1, none⟩) (by simp; omega)
  have d2 := hb.cell (p := ⟨w.heap.size + 1, 0, none⟩) (by simp)
  have d3 := hb.cell (p := ⟨w.heap.size + 1, 1, none⟩) (by simp)
  have f2 := hb.frozen (p := ⟨w.heap.size + 1, 0, none⟩) (by simp)
  have f3 := hb.frozen (p := ⟨w.heap.size + 1, 1, none⟩) (by simp)
  simp [go_sem] at d0 d1 d2 d3 f2 f3
  have hz : w.heap.size + 1 + 1 + 1 ≤ w1.heap.size := by simpa using hb.size
  have hbb : Below w.heap.size w w1 := ((((Below.refl _ _).alloc (Nat.le_refl _) _).alloc (by go_size) _).alloc (by go_size) _).trans (hb.mono (by go_size))
  have hz0 : w.heap.size < w1.heap.size := by omega
  have hz1 : w.heap.size + 1 < w1.heap.size := by omega
  have i5 := rules_index_10
  go_wp2_with fail
  refine wp_region_steady (fun w' => ∃ n, w' = World.drewN _ n) 12 (by kernel_rfl) (by kernel_rfl) ⟨1, rfl⟩ ?_
  simp only [List.take_succ_cons, List.take_zero, List.drop_succ_cons, List.drop_zero]
  repeat (quiet_step ((go_at_call 29; exact Calls.quiet_of_same ((style_same_calls _ _).mono fun _ _ ⟨he, hw⟩ => ⟨he, hw.symm⟩))))
  refine wpQuiet_nil ?_
  intro _ hw'
  obtain ⟨nq, hw''⟩ := hw'
  subst hw''
  go_wp2
  refine bodyPost_ret (v := .tuple #[.agg #[.int .i64 (l), .bool true], .int .i64 0]) (by simp [results, Try.results11, go_sem, *]) rfl ⟨rfl, ?_⟩
  refine Below.setCell (Below.setCell (below_drewN (Below.alloc hbb ?_ _) _) ?_ _) ?_ _ <;> go_size

set_option maxHeartbeats 1000000 in
theorem slot_11_0_true (l : Int) (w : World) (h0 : 0 ≤ l) (h3 : l ≤ 3) :
    Calls Try.prog 11 #[.int .i64 11, .int .i64 0, .agg #[.int .i64 l, .bool true]] w (Gives (.tuple #[.agg #[.int .i64 (l), .bool true], .int .i64 0]) w) := by
  have hv : (decide (0 ≤ l) && decide (l ≤ 3)) = true := by simp; omega
  go_enter Try.func11, Try.ntmps11
  go_wp2_with fail
  refine (style_Valid_calls _ _ _).mono ?_
  rintro e w' ⟨rfl, rfl⟩
  go_wp2_with fail
  refine (style_rules_calls_11 _).mono ?_
  rintro e w1 ⟨rfl, hb, c0, c1⟩
  simp only [World.size_alloc] at hb c0 c1
  have d0 := hb.cell (p := ⟨w.heap.size, 0, none⟩) (by simp; omega)
  have d1 := hb.cell (p := ⟨w.heap.size, 1, none⟩) (by simp; omega)
  have d2 := hb.cell (p := ⟨w.heap.size + 1, 0, none⟩) (by simp)
  have d3 := hb.cell (p := ⟨w.heap.size + 1, 1, none⟩) (by simp)
  have f2 := hb.frozen (p := ⟨w.heap.size + 1, 0, none⟩) (by simp)
  have f3 := hb.frozen (p := ⟨w.heap.size + 1, 1, none⟩) (by simp)
  simp [go_sem] at d0 d1 d2 d3 f2 f3
  have hz : w.heap.size + 1 + 1 + 1 ≤ w1.heap.size := by simpa using hb.size
  have hbb : Below w.heap.size w w1 := ((((Below.refl _ _).alloc (Nat.le_refl _) _).alloc (by go_size) _).alloc (by go_size) _).trans (hb.mono (by go_size))
  have hz0 : w.heap.size < w1.heap.size := by omega
  have hz1 : w.heap.size + 1 < w1.heap.size := by omega
  have i5 := rules_index_11
  go_wp2_with fail
  refine wp_region_steady (fun w' => ∃ n, w' = World.drewN _ n) 12 (by kernel_rfl) (by kernel_rfl) ⟨1, rfl⟩ ?_
  simp only [List.take_succ_cons, List.take_zero, List.drop_succ_cons, List.drop_zero]
  repeat (quiet_step ((go_at_call 29; exact Calls.quiet_of_same ((style_same_calls _ _).mono fun _ _ ⟨he, hw⟩ => ⟨he, hw.symm⟩))))
  refine wpQuiet_nil ?_
  intro _ hw'
  obtain ⟨nq, hw''⟩ := hw'
  subst hw''
  go_wp2
  refine bodyPost_ret (v := .tuple #[.agg #[.int .i64 (l), .bool true], .int .i64 0]) (by simp [results, Try.results11, go_sem, *]) rfl ⟨rfl, ?_⟩
  refine Below.setCell (Below.setCell (below_drewN (Below.alloc hbb ?_ _) _) ?_ _) ?_ _ <;> go_size

set_option maxHeartbeats 1000000 in
theorem slot_11_0_false (l : Int) (w : World) (h0 : 0 ≤ l) (h3 : l ≤ 3) :
    Calls Try.prog 11 #[.int .i64 11, .int .i64 0, .agg #[.int .i64 l, .bool false]] w (Gives (.tuple #[.agg #[.int .i64 (l), .bool false], .int .i64 0]) w) := by
  have hv : (decide (0 ≤ l) && decide (l ≤ 3)) = true := by simp; omega
  go_enter Try.func11, Try.ntmps11
  go_wp2_with fail
  refine (style_Valid_calls _ _ _).mono ?_
  rintro e w' ⟨rfl, rfl⟩
  go_wp2_with fail
  refine (style_rules_calls_11 _).mono ?_
  rintro e w1 ⟨rfl, hb, c0, c1⟩
  simp only [World.size_alloc] at hb c0 c1
  have d0 := hb.cell (p := ⟨w.heap.size, 0, none⟩) (by simp; omega)
  have d1 := hb.cell (p := ⟨w.heap.size, 1, none⟩) (by simp; omega)
  have d2 := hb.cell (p := ⟨w.heap.size + 1, 0, none⟩) (by simp)
  have d3 := hb.cell (p := ⟨w.heap.size + 1, 1, none⟩) (by simp)
  have f2 := hb.frozen (p := ⟨w.heap.size + 1, 0, none⟩) (by simp)
  have f3 := hb.frozen (p := ⟨w.heap.size + 1, 1, none⟩) (by simp)
  simp [go_sem] at d0 d1 d2 d3 f2 f3
  have hz : w.heap.size + 1 + 1 + 1 ≤ w1.heap.size := by simpa using hb.size
  have hbb : Below w.heap.size w w1 := ((((Below.refl _ _).alloc (Nat.le_refl _) _).alloc (by go_size) _).alloc (by go_size) _).trans (hb.mono (by go_size))
  have hz0 : w.heap.size < w1.heap.size := by omega
  have hz1 : w.heap.size + 1 < w1.heap.size := by omega
  have i5 := rules_index_11
  go_wp2_with fail
  refine wp_region_steady (fun w' => ∃ n, w' = World.drewN _ n) 12 (by kernel_rfl) (by kernel_rfl) ⟨1, rfl⟩ ?_
  simp only [List.take_succ_cons, List.take_zero, List.drop_succ_cons, List.drop_zero]
  repeat (quiet_step ((go_at_call 29; exact Calls.quiet_of_same ((style_same_calls _ _).mono fun _ _ ⟨he, hw⟩ => ⟨he, hw.symm⟩))))
  refine wpQuiet_nil ?_
  intro _ hw'
  obtain ⟨nq, hw''⟩ := hw'
  subst hw''
  go_wp2
  refine bodyPost_ret (v := .tuple #[.agg #[.int .i64 (l), .bool false], .int .i64 0]) (by simp [results, Try.results11, go_sem, *]) rfl ⟨rfl, ?_⟩
  refine Below.setCell (Below.setCell (below_drewN (Below.alloc hbb ?_ _) _) ?_ _) ?_ _ <;> go_size

set_option maxHeartbeats 1000000 in
theorem slot_12_0_true (l : Int) (w : World) (h0 : 0 ≤ l) (h3 : l ≤ 3) :
    Calls Try.prog 11 #[.int .i64 12, .int .i64 0, .agg #[.int .i64 l, .bool true]] w (Gives (.tuple #[.agg #[.int .i64 (max l 1), .bool true], .int .i64 0]) w) := by
  have hv : (decide (0 ≤ l) && decide (l ≤ 3)) = true := by simp; omega
  go_enter Try.func11, Try.ntmps11
  go_wp2_with fail
  refine (style_Valid_calls _ _ _).mono ?_
  rintro e w' ⟨rfl, rfl⟩
  go_wp2_with fail
  refine (style_rules_calls_12 _).mono ?_
  rintro e w1 ⟨rfl, hb, c0, c1⟩
  simp only [World.size_alloc] at hb c0 c1
  have d0 := hb.cell (p := ⟨w.heap.size, 0, none⟩) (by simp; omega)
  have d1 := hb.cell (p := ⟨w.heap.size, 1, none⟩) (by simp; omega)
  have d2 := hb.cell (p := ⟨w.heap.size + 1, 0, none⟩) (by simp)
  have d3 := hb.cell (p := ⟨w.heap.size + 1, 1, none⟩) (by simp)
  have f2 := hb.frozen (p := ⟨w.heap.size + 1, 0, none⟩) (by simp)
  have f3 := hb.frozen (p := ⟨w.heap.size + 1, 1, none⟩) (by simp)
  simp [go_sem] at d0 d1 d2 d3 f2 f3
  have hz : w.heap.size + 1 + 1 + 1 ≤ w1.heap.size := by simpa using hb.size
  have hbb : Below w.heap.size w w1 := ((((Below.refl _ _).alloc (Nat.le_refl _) _).alloc (by go_size) _).alloc (by go_size) _).trans (hb.mono (by go_size))
  have hz0 : w.heap.size < w1.heap.size := by omega
  have hz1 : w.heap.size + 1 < w1.heap.size := by omega
  have i5 := rules_index_12
  go_wp2_with fail
  refine wp_region_steady (fun w' => ∃ n, w' = World.drewN _ n) 12 (by kernel_rfl) (by kernel_rfl) ⟨1, rfl⟩ ?_
  simp only [List.take_succ_cons, List.take_zero, List.drop_succ_cons, List.drop_zero]
  repeat (quiet_step ((go_at_call 31; exact Calls.quiet_of_same ((style_cell_calls _ _).mono fun _ _ ⟨he, hw⟩ => ⟨he, hw.symm⟩))))
  refine wpQuiet_nil ?_
  intro _ hw'
  obtain ⟨nq, hw''⟩ := hw'
  subst hw''
  go_wp2
  refine bodyPost_ret (v := .tuple #[.agg #[.int .i64 (max l 1), .bool true], .int .i64 0]) (by simp [results, Try.results11, go_sem, *]) rfl ⟨rfl, ?_⟩
  refine Below.setCell (Below.setCell (below_drewN (Below.alloc hbb ?_ _) _) ?_ _) ?_ _ <;> go_size

set_option maxHeartbeats 1000000 in
theorem slot_12_0_false (l : Int) (w : World) (h0 : 0 ≤ l) (h3 : l ≤ 3) :
    Calls Try.prog 11 #[.int .i64 12, .int .i64 0, .agg #[.int .i64 l, .bool false]] w (Gives (.tuple #[.agg #[.int .i64 (max l 1), .bool false], .int .i64 0]) w) := by
  have hv : (decide (0 ≤ l) && decide (l ≤ 3)) = true := by simp; omega
  go_enter Try.func11, Try.ntmps11
  go_wp2_with fail
  refine (style_Valid_calls _ _ _).mono ?_
  rintro e w' ⟨rfl, rfl⟩
  go_wp2_with fail
  refine (style_rules_calls_12 _).mono ?_
  rintro e w1 ⟨rfl, hb, c0, c1⟩
  simp only [World.size_alloc] at hb c0 c1
  have d0 := hb.cell (p := ⟨w.heap.size, 0, none⟩) (by simp; omega)
  have d1 := hb.cell (p := ⟨w.heap.size, 1, none⟩) (by simp; omega)
  have d2 := hb.cell (p := ⟨w.heap.size + 1, 0, none⟩) (by simp)
  have d3 := hb.cell (p := ⟨w.heap.size + 1, 1, none⟩) (by simp)
  have f2 := hb.frozen (p := ⟨w.heap.size + 1, 0, none⟩) (by simp)
  have f3 := hb.frozen (p := ⟨w.heap.size + 1, 1, none⟩) (by simp)
  simp [go_sem] at d0 d1 d2 d3 f2 f3
  have hz : w.heap.size + 1 + 1 + 1 ≤ w1.heap.size := by simpa using hb.size
  have hbb : Below w.heap.size w w1 := ((((Below.refl _ _).alloc (Nat.le_refl _) _).alloc (by go_size) _).alloc (by go_size) _).trans (hb.mono (by go_size))
  have hz0 : w.heap.size < w1.heap.size := by omega
  have hz1 : w.heap.size + 1 < w1.heap.size := by omega
  have i5 := rules_index_12
  go_wp2_with fail
  refine wp_region_steady (fun w' => ∃ n, w' = World.drewN _ n) 12 (by kernel_rfl) (by kernel_rfl) ⟨1, rfl⟩ ?_
  simp only [List.take_succ_cons, List.take_zero, List.drop_succ_cons, List.drop_zero]
  repeat (quiet_step ((go_at_call 31; exact Calls.quiet_of_same ((style_cell_calls _ _).mono fun _ _ ⟨he, hw⟩ => ⟨he, hw.symm⟩))))
  refine wpQuiet_nil ?_
  intro _ hw'
  obtain ⟨nq, hw''⟩ := hw'
  subst hw''
  go_wp2
  refine bodyPost_ret (v := .tuple #[.agg #[.int .i64 (max l 1), .bool false], .int .i64 0]) (by simp [results, Try.results11, go_sem, *]) rfl ⟨rfl, ?_⟩
  refine Below.setCell (Below.setCell (below_drewN (Below.alloc hbb ?_ _) _) ?_ _) ?_ _ <;> go_size

set_option maxHeartbeats 1000000 in
theorem slot_12_1_true (l : Int) (s : Int) (w : World) (h0 : 0 ≤ l) (h3 : l ≤ 3) (hs0 : 0 < s) (hs1 : s < 256) :
    Calls Try.prog 11 #[.int .i64 12, .int .i64 s, .agg #[.int .i64 l, .bool true]] w (Gives (.tuple #[.agg #[.int .i64 (max l 1), .bool true], .int .i64 0]) w) := by
  have hv : (decide (0 ≤ l) && decide (l ≤ 3)) = true := by simp; omega
  go_enter Try.func11, Try.ntmps11
  go_wp2_with fail
  refine (style_Valid_calls _ _ _).mono ?_
  rintro e w' ⟨rfl, rfl⟩
  go_wp2_with fail
  refine (style_rules_calls_12 _).mono ?_
  rintro e w1 ⟨rfl, hb, c0, c1⟩
  simp only [World.size_alloc] at hb c0 c1
  have d0 := hb.cell (p := ⟨w.heap.size, 0, none⟩) (by simp; omega)
  have d1 := hb.cell (p := ⟨w.heap.size, 1, none⟩) (by simp; omega)
  have d2 := hb.cell (p := ⟨w.heap.size + 1, 0, none⟩) (by simp)
  have d3 := hb.cell (p := ⟨w.heap.size + 1, 1, none⟩) (by simp)
  have f2 := hb.frozen (p := ⟨w.heap.size + 1, 0, none⟩) (by simp)
  have f3 := hb.frozen (p := ⟨w.heap.size + 1, 1, none⟩) (by simp)
  simp [go_sem] at d0 d1 d2 d3 f2 f3
  have hz : w.heap.size + 1 + 1 + 1 ≤ w1.heap.size := by simpa using hb.size
  have hbb : Below w.heap.size w w1 := ((((Below.refl _ _).alloc (Nat.le_refl _) _).alloc (by go_size) _).alloc (by go_size) _).trans (hb.mono (by go_size))
  have hz0 : w.heap.size < w1.heap.size := by omega
  have hz1 : w.heap.size + 1 < w1.heap.size := by omega
  have i5 := rules_index_12
  go_wp2_with fail
  all_goals
    refine wp_region_steady (fun w' => ∃ n, w' = World.drewN _ n) 12 (by kernel_rfl) (by kernel_rfl) ⟨1, rfl⟩ ?_
    simp only [List.take_succ_cons, List.take_zero, List.drop_succ_cons, List.drop_zero]
    repeat (quiet_step ((go_at_call 31; exact Calls.quiet_of_same ((style_cell_calls _ _).mono fun _ _ ⟨he, hw⟩ => ⟨he, hw.symm⟩))))
    refine wpQuiet_nil ?_
    intro _ hw'
    obtain ⟨nq, hw''⟩ := hw'
    subst hw''
    go_wp2
    refine bodyPost_ret (v := .tuple #[.agg #[.int .i64 (max l 1), .bool true], .int .i64 0]) (by simp [results, Try.results11, go_sem, *]) rfl ⟨rfl, ?_⟩
    refine Below.setCell (Below.setCell (below_drewN (Below.alloc hbb ?_ _) _) ?_ _) ?_ _ <;> go_size

set_option maxHeartbeats 1000000 in
theorem slot_12_1_false (l : Int) (s : Int) (w : World) (h0 : 0 ≤ l) (h3 : l ≤ 3) (hs0 : 0 < s) (hs1 : s < 256) :
    Calls Try.prog 11 #[.int .i64 12, .int .i64 s, .agg #[.int .i64 l, .bool false]] w (Gives (.tuple #[.agg #[.int .i64 (max l 1), .bool false], .int .i64 0]) w) := by
  have hv : (decide (0 ≤ l) && decide (l ≤ 3)) = true := by simp; omega
  go_enter Try.func11, Try.ntmps11
  go_wp2_with fail
  refine (style_Valid_calls _ _ _).mono ?_
  rintro e w' ⟨rfl, rfl⟩
  go_wp2_with fail
  refine (style_rules_calls_12 _).mono ?_
  rintro e w1 ⟨rfl, hb, c0, c1⟩
  simp only [World.size_alloc] at hb c0 c1
  have d0 := hb.cell (p := ⟨w.heap.size, 0, none⟩) (by simp; omega)
  have d1 := hb.cell (p := ⟨w.heap.size, 1, none⟩) (by simp; omega)
  have d2 := hb.cell (p := ⟨w.heap.size + 1, 0, none⟩) (by simp)
  have d3 := hb.cell (p := ⟨w.heap.size + 1, 1, none⟩) (by simp)
  have f2 := hb.frozen (p := ⟨w.heap.size + 1, 0, none⟩) (by simp)
  have f3 := hb.frozen (p := ⟨w.heap.size + 1, 1, none⟩) (by simp)
  simp [go_sem] at d0 d1 d2 d3 f2 f3
  have hz : w.heap.size + 1 + 1 + 1 ≤ w1.heap.size := by simpa using hb.size
  have hbb : Below w.heap.size w w1 := ((((Below.refl _ _).alloc (Nat.le_refl _) _).alloc (by go_size) _).alloc (by go_size) _).trans (hb.mono (by go_size))
  have hz0 : w.heap.size < w1.heap.size := by omega
  have hz1 : w.heap.size + 1 < w1.heap.size := by omega
  have i5 := rules_index_12
  go_wp2_with fail
  all_goals
    refine wp_region_steady (fun w' => ∃ n, w' = World.drewN _ n) 12 (by kernel_rfl) (by kernel_rfl) ⟨1, rfl⟩ ?_
    simp only [List.take_succ_cons, List.take_zero, List.drop_succ_cons, List.drop_zero]
    repeat (quiet_step ((go_at_call 31; exact Calls.quiet_of_same ((style_cell_calls _ _).mono fun _ _ ⟨he, hw⟩ => ⟨he, hw.symm⟩))))
    refine wpQuiet_nil ?_
    intro _ hw'
    obtain ⟨nq, hw''⟩ := hw'
    subst hw''
    go_wp2
    refine bodyPost_ret (v := .tuple #[.agg #[.int .i64 (max l 1), .bool false], .int .i64 0]) (by simp [results, Try.results11, go_sem, *]) rfl ⟨rfl, ?_⟩
    refine Below.setCell (Below.setCell (below_drewN (Below.alloc hbb ?_ _) _) ?_ _) ?_ _ <;> go_size

end Go.Proofs.Ytillohdeljlchaa
