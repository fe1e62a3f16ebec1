/- style.Slot, where it has a slot: one walk for each kind, slot and cramping. -/
import Derived.Test.YtillohdeljlchaaSty
import Derived.Test.YtillohdeljlchaaReg
namespace Go.Proofs.Ytillohdeljlchaa
open Go.RowKit

theorem style_rules_calls_5 (w : World) : Calls Try.prog 21 #[] w fun e w' => e = .returned (rulesVal w.heap.size) ∧ Below w.heap.size w w' ∧ w'.cell? ⟨w.heap.size + 1, 0, none⟩ = some (.func (.func 27) #[] #[]) ∧ w'.cell? ⟨w.heap.size + 1, 1, none⟩ = some (.bool false) ∧ w'.cell? ⟨w.heap.size + 1, 2, none⟩ = some (.func (.func 27) #[] #[]) ∧ w'.cell? ⟨w.heap.size + 1, 3, none⟩ = some (.bool true) :=
  (style_rules_calls w).mono fun _ _ ⟨he, hw⟩ => hw ▸ ⟨he, rulesWorld_below w, rulesWorld_5 w⟩

theorem style_rules_calls_6 (w : World) : Calls Try.prog 21 #[] w fun e w' => e = .returned (rulesVal w.heap.size) ∧ Below w.heap.size w w' ∧ w'.cell? ⟨w.heap.size + 1 + 1, 0, none⟩ = some (.func (.func 28) #[] #[]) ∧ w'.cell? ⟨w.heap.size + 1 + 1, 1, none⟩ = some (.bool false) ∧ w'.cell? ⟨w.heap.size + 1 + 1, 2, none⟩ = some (.func (.func 29) #[] #[]) ∧ w'.cell? ⟨w.heap.size + 1 + 1, 3, none⟩ = some (.bool true) :=
  (style_rules_calls w).mono fun _ _ ⟨he, hw⟩ => hw ▸ ⟨he, rulesWorld_below w, rulesWorld_6 w⟩

theorem style_rules_calls_7 (w : World) : Calls Try.prog 21 #[] w fun e w' => e = .returned (rulesVal w.heap.size) ∧ Below w.heap.size w w' ∧ w'.cell? ⟨w.heap.size + 1 + 1 + 1, 0, none⟩ = some (.func (.func 29) #[] #[]) ∧ w'.cell? ⟨w.heap.size + 1 + 1 + 1, 1, none⟩ = some (.bool false) ∧ w'.cell? ⟨w.heap.size + 1 + 1 + 1, 2, none⟩ = some (.func (.func 30) #[] #[]) ∧ w'.cell? ⟨w.heap.size + 1 + 1 + 1, 3, none⟩ = some (.bool true) :=
  (style_rules_calls w).mono fun _ _ ⟨he, hw⟩ => hw ▸ ⟨he, rulesWorld_below w, rulesWorld_7 w⟩

theorem style_rules_calls_8 (w : World) : Calls Try.prog 21 #[] w fun e w' => e = .returned (rulesVal w.heap.size) ∧ Below w.heap.size w w' ∧ w'.cell? ⟨w.heap.size + 1 + 1 + 1 + 1, 0, none⟩ = some (.func (.func 29) #[] #[]) ∧ w'.cell? ⟨w.heap.size + 1 + 1 + 1 + 1, 1, none⟩ = some (.bool false) ∧ w'.cell? ⟨w.heap.size + 1 + 1 + 1 + 1, 2, none⟩ = some (.func (.func 30) #[] #[]) ∧ w'.cell? ⟨w.heap.size + 1 + 1 + 1 + 1, 3, none⟩ = some (.bool false) :=
  (style_rules_calls w).mono fun _ _ ⟨he, hw⟩ => hw ▸ ⟨he, rulesWorld_below w, rulesWorld_8 w⟩

theorem style_rules_calls_9 (w : World) : Calls Try.prog 21 #[] w fun e w' => e = .returned (rulesVal w.heap.size) ∧ Below w.heap.size w w' ∧ w'.cell? ⟨w.heap.size + 1 + 1 + 1 + 1 + 1, 0, none⟩ = some (.func (.func 29) #[] #[]) ∧ w'.cell? ⟨w.heap.size + 1 + 1 + 1 + 1 + 1, 1, none⟩ = some (.bool false) ∧ w'.cell? ⟨w.heap.size + 1 + 1 + 1 + 1 + 1, 2, none⟩ = some (.func (.func 30) #[] #[]) ∧ w'.cell? ⟨w.heap.size + 1 + 1 + 1 + 1 + 1, 3, none⟩ = some (.bool true) ∧ w'.cell? ⟨w.heap.size + 1 + 1 + 1 + 1 + 1, 4, none⟩ = some (.func (.func 30) #[] #[]) ∧ w'.cell? ⟨w.heap.size + 1 + 1 + 1 + 1 + 1, 5, none⟩ = some (.bool false) :=
  (style_rules_calls w).mono fun _ _ ⟨he, hw⟩ => hw ▸ ⟨he, rulesWorld_below w, rulesWorld_9 w⟩

theorem style_rules_calls_10 (w : World) : Calls Try.prog 21 #[] w fun e w' => e = .returned (rulesVal w.heap.size) ∧ Below w.heap.size w w' ∧ w'.cell? ⟨w.heap.size + 1 + 1 + 1 + 1 + 1 + 1, 0, none⟩ = some (.func (.func 29) #[] #[]) ∧ w'.cell? ⟨w.heap.size + 1 + 1 + 1 + 1 + 1 + 1, 1, none⟩ = some (.bool true) :=
  (style_rules_calls w).mono fun _ _ ⟨he, hw⟩ => hw ▸ ⟨he, rulesWorld_below w, rulesWorld_10 w⟩

theorem style_rules_calls_11 (w : World) : Calls Try.prog 21 #[] w fun e w' => e = .returned (rulesVal w.heap.size) ∧ Below w.heap.size w w' ∧ w'.cell? ⟨w.heap.size + 1 + 1 + 1 + 1 + 1 + 1 + 1, 0, none⟩ = some (.func (.func 29) #[] #[]) ∧ w'.cell? ⟨w.heap.size + 1 + 1 + 1 + 1 + 1 + 1 + 1, 1, none⟩ = some (.bool false) :=
  (style_rules_calls w).mono fun _ _ ⟨he, hw⟩ => hw ▸ ⟨he, rulesWorld_below w, rulesWorld_11 w⟩

theorem style_rules_calls_12 (w : World) : Calls Try.prog 21 #[] w fun e w' => e = .returned (rulesVal w.heap.size) ∧ Below w.heap.size w w' ∧ w'.cell? ⟨w.heap.size + 1 + 1 + 1 + 1 + 1 + 1 + 1 + 1, 0, none⟩ = some (.func (.func 31) #[] #[]) ∧ w'.cell? ⟨w.heap.size + 1 + 1 + 1 + 1 + 1 + 1 + 1 + 1, 1, none⟩ = some (.bool false) :=
  (style_rules_calls w).mono fun _ _ ⟨he, hw⟩ => hw ▸ ⟨he, rulesWorld_below w, rulesWorld_12 w⟩

set_option maxHeartbeats 1000000 in
theorem slot_5_0_true (l : Int) (w : World) (h0 : 0 ≤ l) (h3 : l ≤ 3) :
    Calls Try.prog 11 #[.int .i64 5, .int .i64 0, .agg #[.int .i64 l, .bool true]] w (Gives (.tuple #[.agg #[.int .i64 (min (l + 1) 3), .bool true], .int .i64 0]) w) := by
  have hv : (decide (0 ≤ l) && decide (l ≤ 3)) = true := by simp; omega
  go_enter Try.func11, Try.ntmps11
  go_wp2_with fail
  refine (style_Valid_calls _ _ _).mono ?_
  rintro e w' ⟨rfl, rfl⟩
  go_wp2_with fail
  refine (style_rules_calls_5 _).mono ?_
  rintro e w1 ⟨rfl, hb, c0, c1, c2, c3⟩
  simp only [World.size_alloc] at hb c0 c1 c2 c3
  have d0 := hb.cell (p := ⟨w.heap.size, 0, none⟩) (by simp; omega)
  have d1 := hb.cell (p := ⟨w.heap.size, 1, none⟩) (by simp; omega)
  have d2 := hb.cell (p := ⟨w.heap.size + 1, 0, none⟩) (by simp)
  have d3 := hb.cell (p := ⟨w.heap.size + 1, 1, none⟩) (by simp)
  have f2 := hb.frozen (p := ⟨w.heap.size + 1, 0, none⟩) (by simp)
  have f3 := hb.frozen (p := ⟨w.heap.size + 1, 1, none⟩) (by simp)
  simp [go_sem] at d0 d1 d2 d3 f2 f3
  have hz : w.heap.size + 1 + 1 + 1 ≤ w1.heap.size := by simpa using hb.size
  have hbb : Below w.heap.size w w1 := ((((Below.refl _ _).alloc (Nat.le_refl _) _).alloc (by go_size) _).alloc (by go_size) _).trans (hb.mono (by go_size))
  have hz0 : w.heap.size < w1.heap.size := by omega
  have hz1 : w.heap.size + 1 < w1.heap.size := by omega
  have i5 := rules_index_5
  go_wp2_with fail
  refine wp_region_steady (fun w' => ∃ n, w' = World.drewN _ n) 12 (by kernel_rfl) (by kernel_rfl) ⟨1, rfl⟩ ?_
  simp only [List.take_succ_cons, List.take_zero, List.drop_succ_cons, List.drop_zero]
  repeat (quiet_step ((go_at_call 27; exact Calls.quiet_of_same ((style_next_calls _ _ h0 h3).mono fun _ _ ⟨he, hw⟩ => ⟨he, hw.symm⟩))))
  refine wpQuiet_nil ?_
  intro _ hw'
  obtain ⟨nq, hw''⟩ := hw'
  subst hw''
  go_wp2
  refine bodyPost_ret (v := .tuple #[.agg #[.int .i64 (min (l + 1) 3), .bool true], .int .i64 0]) (by simp [results, Try.results11, go_sem, *]) rfl ⟨rfl, ?_⟩
  refine Below.setCell (Below.setCell (below_drewN (Below.alloc hbb ?_ _) _) ?_ _) ?_ _ <;> go_size

set_option maxHeartbeats 1000000 in
theorem slot_5_0_false (l : Int) (w : World) (h0 : 0 ≤ l) (h3 : l ≤ 3) :
    Calls Try.prog 11 #[.int .i64 5, .int .i64 0, .agg #[.int .i64 l, .bool false]] w (Gives (.tuple #[.agg #[.int .i64 (min (l + 1) 3), .bool false], .int .i64 0]) w) := by
  have hv : (decide (0 ≤ l) && decide (l ≤ 3)) = true := by simp; omega
  go_enter Try.func11, Try.ntmps11
  go_wp2_with fail
  refine (style_Valid_calls _ _ _).mono ?_
  rintro e w' ⟨rfl, rfl⟩
  go_wp2_with fail
  refine (style_rules_calls_5 _).mono ?_
  rintro e w1 ⟨rfl, hb, c0, c1, c2, c3⟩
  simp only [World.size_alloc] at hb c0 c1 c2 c3
  have d0 := hb.cell (p := ⟨w.heap.size, 0, none⟩) (by simp; omega)
  have d1 := hb.cell (p := ⟨w.heap.size, 1, none⟩) (by simp; omega)
  have d2 := hb.cell (p := ⟨w.heap.size + 1, 0, none⟩) (by simp)
  have d3 := hb.cell (p := ⟨w.heap.size + 1, 1, none⟩) (by simp)
  have f2 := hb.frozen (p := ⟨w.heap.size + 1, 0, none⟩) (by simp)
  have f3 := hb.frozen (p := ⟨w.heap.size + 1, 1, none⟩) (by simp)
  simp [go_sem] at d0 d1 d2 d3 f2 f3
  have hz : w.heap.size + 1 + 1 + 1 ≤ w1.heap.size := by simpa using hb.size
  have hbb : Below w.heap.size w w1 := ((((Below.refl _ _).alloc (Nat.le_refl _) _).alloc (by go_size) _).alloc (by go_size) _).trans (hb.mono (by go_size))
  have hz0 : w.heap.size < w1.heap.size := by omega
  have hz1 : w.heap.size + 1 < w1.heap.size := by omega
  have i5 := rules_index_5
  go_wp2_with fail
  refine wp_region_steady (fun w' => ∃ n, w' = World.drewN _ n) 12 (by kernel_rfl) (by kernel_rfl) ⟨1, rfl⟩ ?_
  simp only [List.take_succ_cons, List.take_zero, List.drop_succ_cons, List.drop_zero]
  repeat (quiet_step ((go_at_call 27; exact Calls.quiet_of_same ((style_next_calls _ _ h0 h3).mono fun _ _ ⟨he, hw⟩ => ⟨he, hw.symm⟩))))
  refine wpQuiet_nil ?_
  intro _ hw'
  obtain ⟨nq, hw''⟩ := hw'
  subst hw''
  go_wp2
  refine bodyPost_ret (v := .tuple #[.agg #[.int .i64 (min (l + 1) 3), .bool false], .int .i64 0]) (by simp [results, Try.results11, go_sem, *]) rfl ⟨rfl, ?_⟩
  refine Below.setCell (Below.setCell (below_drewN (Below.alloc hbb ?_ _) _) ?_ _) ?_ _ <;> go_size

set_option maxHeartbeats 1000000 in
theorem slot_5_1_true (l : Int) (w : World) (h0 : 0 ≤ l) (h3 : l ≤ 3) :
    Calls Try.prog 11 #[.int .i64 5, .int .i64 1, .agg #[.int .i64 l, .bool true]] w (Gives (.tuple #[.agg #[.int .i64 (min (l + 1) 3), .bool true], .int .i64 0]) w) := by
  have hv : (decide (0 ≤ l) && decide (l ≤ 3)) = true := by simp; omega
  go_enter Try.func11, Try.ntmps11
  go_wp2_with fail
  refine (style_Valid_calls _ _ _).mono ?_
  rintro e w' ⟨rfl, rfl⟩
  go_wp2_with fail
  refine (style_rules_calls_5 _).mono ?_
  rintro e w1 ⟨rfl, hb, c0, c1, c2, c3⟩
  simp only [World.size_alloc] at hb c0 c1 c2 c3
  have d0 := hb.cell (p := ⟨w.heap.size, 0, none⟩) (by simp; omega)
  have d1 := hb.cell (p := ⟨w.heap.size, 1, none⟩) (by simp; omega)
  have d2 := hb.cell (p := ⟨w.heap.size + 1, 0, none⟩) (by simp)
  have d3 := hb.cell (p := ⟨w.heap.size + 1, 1, none⟩) (by simp)
  have f2 := hb.frozen (p := ⟨w.heap.size + 1, 0, none⟩) (by simp)
  have f3 := hb.frozen (p := ⟨w.heap.size + 1, 1, none⟩) (by simp)
  simp [go_sem] at d0 d1 d2 d3 f2 f3
  have hz : w.heap.size + 1 + 1 + 1 ≤ w1.heap.size := by simpa using hb.size
  have hbb : Below w.heap.size w w1 := ((((Below.refl _ _).alloc (Nat.le_refl _) _).alloc (by go_size) _).alloc (by go_size) _).trans (hb.mono (by go_size))
  have hz0 : w.heap.size < w1.heap.size := by omega
  have hz1 : w.heap.size + 1 < w1.heap.size := by omega
  have i5 := rules_index_5
  go_wp2_with fail
  refine wp_region_steady (fun w' => ∃ n, w' = World.drewN _ n) 12 (by kernel_rfl) (by kernel_rfl) ⟨1, rfl⟩ ?_
  simp only [List.take_succ_cons, List.take_zero, List.drop_succ_cons, List.drop_zero]
  repeat (quiet_step ((go_at_call 27; exact Calls.quiet_of_same ((style_next_calls _ _ h0 h3).mono fun _ _ ⟨he, hw⟩ => ⟨he, hw.symm⟩))))
  refine wpQuiet_nil ?_
  intro _ hw'
  obtain ⟨nq, hw''⟩ := hw'
  subst hw''
  go_wp2
  refine bodyPost_ret (v := .tuple #[.agg #[.int .i64 (min (l + 1) 3), .bool true], .int .i64 0]) (by simp [results, Try.results11, go_sem, *]) rfl ⟨rfl, ?_⟩
  refine Below.setCell (Below.setCell (below_drewN (Below.alloc hbb ?_ _) _) ?_ _) ?_ _ <;> go_size

set_option maxHeartbeats 1000000 in
theorem slot_5_1_false (l : Int) (w : World) (h0 : 0 ≤ l) (h3 : l ≤ 3) :
    Calls Try.prog 11 #[.int .i64 5, .int .i64 1, .agg #[.int .i64 l, .bool false]] w (Gives (.tuple #[.agg #[.int .i64 (min (l + 1) 3), .bool true], .int .i64 0]) w) := by
  have hv : (decide (0 ≤ l) && decide (l ≤ 3)) = true := by simp; omega
  go_enter Try.func11, Try.ntmps11
  go_wp2_with fail
  refine (style_Valid_calls _ _ _).mono ?_
  rintro e w' ⟨rfl, rfl⟩
  go_wp2_with fail
  refine (style_rules_calls_5 _).mono ?_
  rintro e w1 ⟨rfl, hb, c0, c1, c2, c3⟩
  simp only [World.size_alloc] at hb c0 c1 c2 c3
  have d0 := hb.cell (p := ⟨w.heap.size, 0, none⟩) (by simp; omega)
  have d1 := hb.cell (p := ⟨w.heap.size, 1, none⟩) (by simp; omega)
  have d2 := hb.cell (p := ⟨w.heap.size + 1, 0, none⟩) (by simp)
  have d3 := hb.cell (p := ⟨w.heap.size + 1, 1, none⟩) (by simp)
  have f2 := hb.frozen (p := ⟨w.heap.size + 1, 0, none⟩) (by simp)
  have f3 := hb.frozen (p := ⟨w.heap.size + 1, 1, none⟩) (by simp)
  simp [go_sem] at d0 d1 d2 d3 f2 f3
  have hz : w.heap.size + 1 + 1 + 1 ≤ w1.heap.size := by simpa using hb.size
  have hbb : Below w.heap.size w w1 := ((((Below.refl _ _).alloc (Nat.le_refl _) _).alloc (by go_size) _).alloc (by go_size) _).trans (hb.mono (by go_size))
  have hz0 : w.heap.size < w1.heap.size := by omega
  have hz1 : w.heap.size + 1 < w1.heap.size := by omega
  have i5 := rules_index_5
  go_wp2_with fail
  refine wp_region_steady (fun w' => ∃ n, w' = World.drewN _ n) 12 (by kernel_rfl) (by kernel_rfl) ⟨1, rfl⟩ ?_
  simp only [List.take_succ_cons, List.take_zero, List.drop_succ_cons, List.drop_zero]
  repeat (quiet_step ((go_at_call 27; exact Calls.quiet_of_same ((style_next_calls _ _ h0 h3).mono fun _ _ ⟨he, hw⟩ => ⟨he, hw.symm⟩))))
  refine wpQuiet_nil ?_
  intro _ hw'
  obtain ⟨nq, hw''⟩ := hw'
  subst hw''
  go_wp2
  refine bodyPost_ret (v := .tuple #[.agg #[.int .i64 (min (l + 1) 3), .bool true], .int .i64 0]) (by simp [results, Try.results11, go_sem, *]) rfl ⟨rfl, ?_⟩
  refine Below.setCell (Below.setCell (below_drewN (Below.alloc hbb ?_ _) _) ?_ _) ?_ _ <;> go_size

set_option maxHeartbeats 1000000 in
theorem slot_6_0_true (l : Int) (w : World) (h0 : 0 ≤ l) (h3 : l ≤ 3) :
    Calls Try.prog 11 #[.int .i64 6, .int .i64 0, .agg #[.int .i64 l, .bool true]] w (Gives (.tuple #[.agg #[.int .i64 (3), .bool true], .int .i64 0]) w) := by
  have hv : (decide (0 ≤ l) && decide (l ≤ 3)) = true := by simp; omega
  go_enter Try.func11, Try.ntmps11
  go_wp2_with fail
  refine (style_Valid_calls _ _ _).mono ?_
  rintro e w' ⟨rfl, rfl⟩
  go_wp2_with fail
  refine (style_rules_calls_6 _).mono ?_
  rintro e w1 ⟨rfl, hb, c0, c1, c2, c3⟩
  simp only [World.size_alloc] at hb c0 c1 c2 c3
  have d0 := hb.cell (p := ⟨w.heap.size, 0, none⟩) (by simp; omega)
  have d1 := hb.cell (p := ⟨w.heap.size, 1, none⟩) (by simp; omega)
  have d2 := hb.cell (p := ⟨w.heap.size + 1, 0, none⟩) (by simp)
  have d3 := hb.cell (p := ⟨w.heap.size + 1, 1, none⟩) (by simp)
  have f2 := hb.frozen (p := ⟨w.heap.size + 1, 0, none⟩) (by simp)
  have f3 := hb.frozen (p := ⟨w.heap.size + 1, 1, none⟩) (by simp)
  simp [go_sem] at d0 d1 d2 d3 f2 f3
  have hz : w.heap.size + 1 + 1 + 1 ≤ w1.heap.size := by simpa using hb.size
  have hbb : Below w.heap.size w w1 := ((((Below.refl _ _).alloc (Nat.le_refl _) _).alloc (by go_size) _).alloc (by go_size) _).trans (hb.mono (by go_size))
  have hz0 : w.heap.size < w1.heap.size := by omega
  have hz1 : w.heap.size + 1 < w1.heap.size := by omega
  have i5 := rules_index_6
  go_wp2_with fail
  refine wp_region_steady (fun w' => ∃ n, w' = World.drewN _ n) 12 (by kernel_rfl) (by kernel_rfl) ⟨1, rfl⟩ ?_
  simp only [List.take_succ_cons, List.take_zero, List.drop_succ_cons, List.drop_zero]
  repeat (quiet_step ((go_at_call 28; exact Calls.quiet_of_same ((style_least_calls _ _).mono fun _ _ ⟨he, hw⟩ => ⟨he, hw.symm⟩))))
  refine wpQuiet_nil ?_
  intro _ hw'
  obtain ⟨nq, hw''⟩ := hw'
  subst hw''
  go_wp2
  refine bodyPost_ret (v := .tuple #[.agg #[.int .i64 (3), .bool true], .int .i64 0]) (by simp [results, Try.results11, go_sem, *]) rfl ⟨rfl, ?_⟩
  refine Below.setCell (Below.setCell (below_drewN (Below.alloc hbb ?_ _) _) ?_ _) ?_ _ <;> go_size

set_option maxHeartbeats 1000000 in
theorem slot_6_0_false (l : Int) (w : World) (h0 : 0 ≤ l) (h3 : l ≤ 3) :
    Calls Try.prog 11 #[.int .i64 6, .int .i64 0, .agg #[.int .i64 l, .bool false]] w (Gives (.tuple #[.agg #[.int .i64 (3), .bool false], .int .i64 0]) w) := by
  have hv : (decide (0 ≤ l) && decide (l ≤ 3)) = true := by simp; omega
  go_enter Try.func11, Try.ntmps11
  go_wp2_with fail
  refine (style_Valid_calls _ _ _).mono ?_
  rintro e w' ⟨rfl, rfl⟩
  go_wp2_with fail
  refine (style_rules_calls_6 _).mono ?_
  rintro e w1 ⟨rfl, hb, c0, c1, c2, c3⟩
  simp only [World.size_alloc] at hb c0 c1 c2 c3
  have d0 := hb.cell (p := ⟨w.heap.size, 0, none⟩) (by simp; omega)
  have d1 := hb.cell (p := ⟨w.heap.size, 1, none⟩) (by simp; omega)
  have d2 := hb.cell (p := ⟨w.heap.size + 1, 0, none⟩) (by simp)
  have d3 := hb.cell (p := ⟨w.heap.size + 1, 1, none⟩) (by simp)
  have f2 := hb.frozen (p := ⟨w.heap.size + 1, 0, none⟩) (by simp)
  have f3 := hb.frozen (p := ⟨w.heap.size + 1, 1, none⟩) (by simp)
  simp [go_sem] at d0 d1 d2 d3 f2 f3
  have hz : w.heap.size + 1 + 1 + 1 ≤ w1.heap.size := by simpa using hb.size
  have hbb : Below w.heap.size w w1 := ((((Below.refl _ _).alloc (Nat.le_refl _) _).alloc (by go_size) _).alloc (by go_size) _).trans (hb.mono (by go_size))
  have hz0 : w.heap.size < w1.heap.size := by omega
  have hz1 : w.heap.size + 1 < w1.heap.size := by omega
  have i5 := rules_index_6
  go_wp2_with fail
  refine wp_region_steady (fun w' => ∃ n, w' = World.drewN _ n) 12 (by kernel_rfl) (by kernel_rfl) ⟨1, rfl⟩ ?_
  simp only [List.take_succ_cons, List.take_zero, List.drop_succ_cons, List.drop_zero]
  repeat (quiet_step ((go_at_call 28; exact Calls.quiet_of_same ((style_least_calls _ _).mono fun _ _ ⟨he, hw⟩ => ⟨he, hw.symm⟩))))
  refine wpQuiet_nil ?_
  intro _ hw'
  obtain ⟨nq, hw''⟩ := hw'
  subst hw''
  go_wp2
  refine bodyPost_ret (v := .tuple #[.agg #[.int .i64 (3), .bool false], .int .i64 0]) (by simp [results, Try.results11, go_sem, *]) rfl ⟨rfl, ?_⟩
  refine Below.setCell (Below.setCell (below_drewN (Below.alloc hbb ?_ _) _) ?_ _) ?_ _ <;> go_size

set_option maxHeartbeats 1000000 in
theorem slot_6_1_true (l : Int) (w : World) (h0 : 0 ≤ l) (h3 : l ≤ 3) :
    Calls Try.prog 11 #[.int .i64 6, .int .i64 1, .agg #[.int .i64 l, .bool true]] w (Gives (.tuple #[.agg #[.int .i64 (l), .bool true], .int .i64 0]) w) := by
  have hv : (decide (0 ≤ l) && decide (l ≤ 3)) = true := by simp; omega
  go_enter Try.func11, Try.ntmps11
  go_wp2_with fail
  refine (style_Valid_calls _ _ _).mono ?_
  rintro e w' ⟨rfl, rfl⟩
  go_wp2_with fail
  refine (style_rules_calls_6 _).mono ?_
  rintro e w1 ⟨rfl, hb, c0, c1, c2, c3⟩
  simp only [World.size_alloc] at hb c0 c1 c2 c3
  have d0 := hb.cell (p := ⟨w.heap.size, 0, none⟩) (by simp; omega)
  have d1 := hb.cell (p := ⟨w.heap.size, 1, none⟩) (by simp; omega)
  have d2 := hb.cell (p := ⟨w.heap.size + 1, 0, none⟩) (by simp)
  have d3 := hb.cell (p := ⟨w.heap.size + 1, 1, none⟩) (by simp)
  have f2 := hb.frozen (p := ⟨w.heap.size + 1, 0, none⟩) (by simp)
  have f3 := hb.frozen (p := ⟨w.heap.size + 1, 1, none⟩) (by simp)
  simp [go_sem] at d0 d1 d2 d3 f2 f3
  have hz : w.heap.size + 1 + 1 + 1 ≤ w1.heap.size := by simpa using hb.size
  have hbb : Below w.heap.size w w1 := ((((Below.refl _ _).alloc (Nat.le_refl _) _).alloc (by go_size) _).alloc (by go_size) _).trans (hb.mono (by go_size))
  have hz0 : w.heap.size < w1.heap.size := by omega
  have hz1 : w.heap.size + 1 < w1.heap.size := by omega
  have i5 := rules_index_6
  go_wp2_with fail
  refine wp_region_steady (fun w' => ∃ n, w' = World.drewN _ n) 12 (by kernel_rfl) (by kernel_rfl) ⟨1, rfl⟩ ?_
  simp only [List.take_succ_cons, List.take_zero, List.drop_succ_cons, List.drop_zero]
  repeat (quiet_step ((go_at_call 29; exact Calls.quiet_of_same ((style_same_calls _ _).mono fun _ _ ⟨he, hw⟩ => ⟨he, hw.symm⟩))))
  refine wpQuiet_nil ?_
  intro _ hw'
  obtain ⟨nq, hw''⟩ := hw'
  subst hw''
  go_wp2
  refine bodyPost_ret (v := .tuple #[.agg #[.int .i64 (l), .bool true], .int .i64 0]) (by simp [results, Try.results11, go_sem, *]) rfl ⟨rfl, ?_⟩
  refine Below.setCell (Below.setCell (below_drewN (Below.alloc hbb ?_ _) _) ?_ _) ?_ _ <;> go_size

set_option maxHeartbeats 1000000 in
theorem slot_6_1_false (l : Int) (w : World) (h0 : 0 ≤ l) (h3 : l ≤ 3) :
    Calls Try.prog 11 #[.int .i64 6, .int .i64 1, .agg #[.int .i64 l, .bool false]] w (Gives (.tuple #[.agg #[.int .i64 (l), .bool true], .int .i64 0]) w) := by
  have hv : (decide (0 ≤ l) && decide (l ≤ 3)) = true := by simp; omega
  go_enter Try.func11, Try.ntmps11
  go_wp2_with fail
  refine (style_Valid_calls _ _ _).mono ?_
  rintro e w' ⟨rfl, rfl⟩
  go_wp2_with fail
  refine (style_rules_calls_6 _).mono ?_
  rintro e w1 ⟨rfl, hb, c0, c1, c2, c3⟩
  simp only [World.size_alloc] at hb c0 c1 c2 c3
  have d0 := hb.cell (p := ⟨w.heap.size, 0, none⟩) (by simp; omega)
  have d1 := hb.cell (p := ⟨w.heap.size, 1, none⟩) (by simp; omega)
  have d2 := hb.cell (p := ⟨w.heap.size + 1, 0, none⟩) (by simp)
  have d3 := hb.cell (p := ⟨w.heap.size + 1, 1, none⟩) (by simp)
  have f2 := hb.frozen (p := ⟨w.heap.size + 1, 0, none⟩) (by simp)
  have f3 := hb.frozen (p := ⟨w.heap.size + 1, 1, none⟩) (by simp)
  simp [go_sem] at d0 d1 d2 d3 f2 f3
  have hz : w.heap.size + 1 + 1 + 1 ≤ w1.heap.size := by simpa using hb.size
  have hbb : Below w.heap.size w w1 := ((((Below.refl _ _).alloc (Nat.le_refl _) _).alloc (by go_size) _).alloc (by go_size) _).trans (hb.mono (by go_size))
  have hz0 : w.heap.size < w1.heap.size := by omega
  have hz1 : w.heap.size + 1 < w1.heap.size := by omega
  have i5 := rules_index_6
  go_wp2_with fail
  refine wp_region_steady (fun w' => ∃ n, w' = World.drewN _ n) 12 (by kernel_rfl) (by kernel_rfl) ⟨1, rfl⟩ ?_
  simp only [List.take_succ_cons, List.take_zero, List.drop_succ_cons, List.drop_zero]
  repeat (quiet_step ((go_at_call 29; exact Calls.quiet_of_same ((style_same_calls _ _).mono fun _ _ ⟨he, hw⟩ => ⟨he, hw.symm⟩))))
  refine wpQuiet_nil ?_
  intro _ hw'
  obtain ⟨nq, hw''⟩ := hw'
  subst hw''
  go_wp2
  refine bodyPost_ret (v := .tuple #[.agg #[.int .i64 (l), .bool true], .int .i64 0]) (by simp [results, Try.results11, go_sem, *]) rfl ⟨rfl, ?_⟩
  refine Below.setCell (Below.setCell (below_drewN (Below.alloc hbb ?_ _) _) ?_ _) ?_ _ <;> go_size

set_option maxHeartbeats 1000000 in
theorem slot_7_0_true (l : Int) (w : World) (h0 : 0 ≤ l) (h3 : l ≤ 3) :
    Calls Try.prog 11 #[.int .i64 7, .int .i64 0, .agg #[.int .i64 l, .bool true]] w (Gives (.tuple #[.agg #[.int .i64 (l), .bool true], .int .i64 0]) w) := by
  have hv : (decide (0 ≤ l) && decide (l ≤ 3)) = true := by simp; omega
  go_enter Try.func11, Try.ntmps11
  go_wp2_with fail
  refine (style_Valid_calls _ _ _).mono ?_
  rintro e w' ⟨rfl, rfl⟩
  go_wp2_with fail
  refine (style_rules_calls_7 _).mono ?_
  rintro e w1 ⟨rfl, hb, c0, c1, c2, c3⟩
  simp only [World.size_alloc] at hb c0 c1 c2 c3
  have d0 := hb.cell (p := ⟨w.heap.size, 0, none⟩) (by simp; omega)
  have d1 := hb.cell (p := ⟨w.heap.size, 1, none⟩) (by simp; omega)
  have d2 := hb.cell (p := ⟨w.heap.size + 1, 0, none⟩) (by simp)
  have d3 := hb.cell (p := ⟨w.heap.size + 1, 1, none⟩) (by simp)
  have f2 := hb.frozen (p := ⟨w.heap.size + 1, 0, none⟩) (by simp)
  have f3 := hb.frozen (p := ⟨w.heap.size + 1, 1, none⟩) (by simp)
  simp [go_sem] at d0 d1 d2 d3 f2 f3
  have hz : w.heap.size + 1 + 1 + 1 ≤ w1.heap.size := by simpa using hb.size
  have hbb : Below w.heap.size w w1 := ((((Below.refl _ _).alloc (Nat.le_refl _) _).alloc (by go_size) _).alloc (by go_size) _).trans (hb.mono (by go_size))
  have hz0 : w.heap.size < w1.heap.size := by omega
  have hz1 : w.heap.size + 1 < w1.heap.size := by omega
  have i5 := rules_index_7
  go_wp2_with fail
  refine wp_region_steady (fun w' => ∃ n, w' = World.drewN _ n) 12 (by kernel_rfl) (by kernel_rfl) ⟨1, rfl⟩ ?_
  simp only [List.take_succ_cons, List.take_zero, List.drop_succ_cons, List.drop_zero]
  repeat (quiet_step ((go_at_call 29; exact Calls.quiet_of_same ((style_same_calls _ _).mono fun _ _ ⟨he, hw⟩ => ⟨he, hw.symm⟩))))
  refine wpQuiet_nil ?_
  intro _ hw'
  obtain ⟨nq, hw''⟩ := hw'
  subst hw''
  go_wp2
  refine bodyPost_ret (v := .tuple #[.agg #[.int .i64 (l), .bool true], .int .i64 0]) (by simp [results, Try.results11, go_sem, *]) rfl ⟨rfl, ?_⟩
  refine Below.setCell (Below.setCell (below_drewN (Below.alloc hbb ?_ _) _) ?_ _) ?_ _ <;> go_size

set_option maxHeartbeats 1000000 in
theorem slot_7_0_false (l : Int) (w : World) (h0 : 0 ≤ l) (h3 : l ≤ 3) :
    Calls Try.prog 11 #[.int .i64 7, .int .i64 0, .agg #[.int .i64 l, .bool false]] w (Gives (.tuple #[.agg #[.int .i64 (l), .bool false], .int .i64 0]) w) := by
  have hv : (decide (0 ≤ l) && decide (l ≤ 3)) = true := by simp; omega
  go_enter Try.func11, Try.ntmps11
  go_wp2_with fail
  refine (style_Valid_calls _ _ _).mono ?_
  rintro e w' ⟨rfl, rfl⟩
  go_wp2_with fail
  refine (style_rules_calls_7 _).mono ?_
  rintro e w1 ⟨rfl, hb, c0, c1, c2, c3⟩
  simp only [World.size_alloc] at hb c0 c1 c2 c3
  have d0 := hb.cell (p := ⟨w.heap.size, 0, none⟩) (by simp; omega)
  have d1 := hb.cell (p := ⟨w.heap.size, 1, none⟩) (by simp; omega)
  have d2 := hb.cell (p := ⟨w.heap.size + 1, 0, none⟩) (by simp)
  have d3 := hb.cell (p := ⟨w.heap.size + 1, 1, none⟩) (by simp)
  have f2 := hb.frozen (p := ⟨w.heap.size + 1, 0, none⟩) (by simp)
  have f3 := hb.frozen (p := ⟨w.heap.size + 1, 1, none⟩) (by simp)
  simp [go_sem] at d0 d1 d2 d3 f2 f3
  have hz : w.heap.size + 1 + 1 + 1 ≤ w1.heap.size := by simpa using hb.size
  have hbb : Below w.heap.size w w1 := ((((Below.refl _ _).alloc (Nat.le_refl _) _).alloc (by go_size) _).alloc (by go_size) _).trans (hb.mono (by go_size))
  have hz0 : w.heap.size < w1.heap.size := by omega
  have hz1 : w.heap.size + 1 < w1.heap.size := by omega
  have i5 := rules_index_7
  go_wp2_with fail
  refine wp_region_steady (fun w' => ∃ n, w' = World.drewN _ n) 12 (by kernel_rfl) (by kernel_rfl) ⟨1, rfl⟩ ?_
  simp only [List.take_succ_cons, List.take_zero, List.drop_succ_cons, List.drop_zero]
  repeat (quiet_step ((go_at_call 29; exact Calls.quiet_of_same ((style_same_calls _ _).mono fun _ _ ⟨he, hw⟩ => ⟨he, hw.symm⟩))))
  refine wpQuiet_nil ?_
  intro _ hw'
  obtain ⟨nq, hw''⟩ := hw'
  subst hw''
  go_wp2
  refine bodyPost_ret (v := .tuple #[.agg #[.int .i64 (l), .bool false], .int .i64 0]) (by simp [results, Try.results11, go_sem, *]) rfl ⟨rfl, ?_⟩
  refine Below.setCell (Below.setCell (below_drewN (Below.alloc hbb ?_ _) _) ?_ _) ?_ _ <;> go_size

set_option maxHeartbeats 1000000 in
theorem slot_7_1_true (l : Int) (w : World) (h0 : 0 ≤ l) (h3 : l ≤ 3) :
    Calls Try.prog 11 #[.int .i64 7, .int .i64 1, .agg #[.int .i64 l, .bool true]] w (Gives (.tuple #[.agg #[.int .i64 (2 + l / 2), .bool true], .int .i64 0]) w) := by
  have hv : (decide (0 ≤ l) && decide (l ≤ 3)) = true := by simp; omega
  go_enter Try.func11, Try.ntmps11
  go_wp2_with fail
  refine (style_Valid_calls _ _ _).mono ?_
  rintro e w' ⟨rfl, rfl⟩
  go_wp2_with fail
  refine (style_rules_calls_7 _).mono ?_
  rintro e w1 ⟨rfl, hb, c0, c1, c2, c3⟩
  simp only [World.size_alloc] at hb c0 c1 c2 c3
  have d0 := hb.cell (p := ⟨w.heap.size, 0, none⟩) (by simp; omega)
  have d1 := hb.cell (p := ⟨w.heap.size, 1, none⟩) (by simp; omega)
  have d2 := hb.cell (p := ⟨w.heap.size + 1, 0, none⟩) (by simp)
  have d3 := hb.cell (p := ⟨w.heap.size + 1, 1, none⟩) (by simp)
  have f2 := hb.frozen (p := ⟨w.heap.size + 1, 0, none⟩) (by simp)
  have f3 := hb.frozen (p := ⟨w.heap.size + 1, 1, none⟩) (by simp)
  simp [go_sem] at d0 d1 d2 d3 f2 f3
  have hz : w.heap.size + 1 + 1 + 1 ≤ w1.heap.size := by simpa using hb.size
  have hbb : Below w.heap.size w w1 := ((((Below.refl _ _).alloc (Nat.le_refl _) _).alloc (by go_size) _).alloc (by go_size) _).trans (hb.mono (by go_size))
  have hz0 : w.heap.size < w1.heap.size := by omega
  have hz1 : w.heap.size + 1 < w1.heap.size := by omega
  have i5 := rules_index_7
  go_wp2_with fail
  refine wp_region_steady (fun w' => ∃ n, w' = World.drewN _ n) 12 (by kernel_rfl) (by kernel_rfl) ⟨1, rfl⟩ ?_
  simp only [List.take_succ_cons, List.take_zero, List.drop_succ_cons, List.drop_zero]
  repeat (quiet_step ((go_at_call 30; exact Calls.quiet_of_same ((style_script_calls _ _ h0 h3).mono fun _ _ ⟨he, hw⟩ => ⟨he, hw.symm⟩))))
  refine wpQuiet_nil ?_
  intro _ hw'
  obtain ⟨nq, hw''⟩ := hw'
  subst hw''
  go_wp2
  refine bodyPost_ret (v := .tuple #[.agg #[.int .i64 (2 + l / 2), .bool true], .int .i64 0]) (by simp [results, Try.results11, go_sem, *]) rfl ⟨rfl, ?_⟩
  refine Below.setCell (Below.setCell (below_drewN (Below.alloc hbb ?_ _) _) ?_ _) ?_ _ <;> go_size

set_option maxHeartbeats 1000000 in
theorem slot_7_1_false (l : Int) (w : World) (h0 : 0 ≤ l) (h3 : l ≤ 3) :
    Calls Try.prog 11 #[.int .i64 7, .int .i64 1, .agg #[.int .i64 l, .bool false]] w (Gives (.tuple #[.agg #[.int .i64 (2 + l / 2), .bool true], .int .i64 0]) w) := by
  have hv : (decide (0 ≤ l) && decide (l ≤ 3)) = true := by simp; omega
  go_enter Try.func11, Try.ntmps11
  go_wp2_with fail
  refine (style_Valid_calls _ _ _).mono ?_
  rintro e w' ⟨rfl, rfl⟩
  go_wp2_with fail
  refine (style_rules_calls_7 _).mono ?_
  rintro e w1 ⟨rfl, hb, c0, c1, c2, c3⟩
  simp only [World.size_alloc] at hb c0 c1 c2 c3
  have d0 := hb.cell (p := ⟨w.heap.size, 0, none⟩) (by simp; omega)
  have d1 := hb.cell (p := ⟨w.heap.size, 1, none⟩) (by simp; omega)
  have d2 := hb.cell (p := ⟨w.heap.size + 1, 0, none⟩) (by simp)
  have d3 := hb.cell (p := ⟨w.heap.size + 1, 1, none⟩) (by simp)
  have f2 := hb.frozen (p := ⟨w.heap.size + 1, 0, none⟩) (by simp)
  have f3 := hb.frozen (p := ⟨w.heap.size + 1, 1, none⟩) (by simp)
  simp [go_sem] at d0 d1 d2 d3 f2 f3
  have hz : w.heap.size + 1 + 1 + 1 ≤ w1.heap.size := by simpa using hb.size
  have hbb : Below w.heap.size w w1 := ((((Below.refl _ _).alloc (Nat.le_refl _) _).alloc (by go_size) _).alloc (by go_size) _).trans (hb.mono (by go_size))
  have hz0 : w.heap.size < w1.heap.size := by omega
  have hz1 : w.heap.size + 1 < w1.heap.size := by omega
  have i5 := rules_index_7
  go_wp2_with fail
  refine wp_region_steady (fun w' => ∃ n, w' = World.drewN _ n) 12 (by kernel_rfl) (by kernel_rfl) ⟨1, rfl⟩ ?_
  simp only [List.take_succ_cons, List.take_zero, List.drop_succ_cons, List.drop_zero]
  repeat (quiet_step ((go_at_call 30; exact Calls.quiet_of_same ((style_script_calls _ _ h0 h3).mono fun _ _ ⟨he, hw⟩ => ⟨he, hw.symm⟩))))
  refine wpQuiet_nil ?_
  intro _ hw'
  obtain ⟨nq, hw''⟩ := hw'
  subst hw''
  go_wp2
  refine bodyPost_ret (v := .tuple #[.agg #[.int .i64 (2 + l / 2), .bool true], .int .i64 0]) (by simp [results, Try.results11, go_sem, *]) rfl ⟨rfl, ?_⟩
  refine Below.setCell (Below.setCell (below_drewN (Below.alloc hbb ?_ _) _) ?_ _) ?_ _ <;> go_size

set_option maxHeartbeats 1000000 in
theorem slot_8_0_true (l : Int) (w : World) (h0 : 0 ≤ l) (h3 : l ≤ 3) :
    Calls Try.prog 11 #[.int .i64 8, .int .i64 0, .agg #[.int .i64 l, .bool true]] w (Gives (.tuple #[.agg #[.int .i64 (l), .bool true], .int .i64 0]) w) := by
  have hv : (decide (0 ≤ l) && decide (l ≤ 3)) = true := by simp; omega
  go_enter Try.func11, Try.ntmps11
  go_wp2_with fail
  refine (style_Valid_calls _ _ _).mono ?_
  rintro e w' ⟨rfl, rfl⟩
  go_wp2_with fail
  refine (style_rules_calls_8 _).mono ?_
  rintro e w1 ⟨rfl, hb, c0, c1, c2, c3⟩
  simp only [World.size_alloc] at hb c0 c1 c2 c3
  have d0 := hb.cell (p := ⟨w.heap.size, 0, none⟩) (by simp; omega)
  have d1 := hb.cell (p := ⟨w.heap.size, 1, none⟩) (by simp; omega)
  have d2 := hb.cell (p := ⟨w.heap.size + 1, 0, none⟩) (by simp)
  have d3 := hb.cell (p := ⟨w.heap.size + 1, 1, none⟩) (by simp)
  have f2 := hb.frozen (p := ⟨w.heap.size + 1, 0, none⟩) (by simp)
  have f3 := hb.frozen (p := ⟨w.heap.size + 1, 1, none⟩) (by simp)
  simp [go_sem] at d0 d1 d2 d3 f2 f3
  have hz : w.heap.size + 1 + 1 + 1 ≤ w1.heap.size := by simpa using hb.size
  have hbb : Below w.heap.size w w1 := ((((Below.refl _ _).alloc (Nat.le_refl _) _).alloc (by go_size) _).alloc (by go_size) _).trans (hb.mono (by go_size))
  have hz0 : w.heap.size < w1.heap.size := by omega
  have hz1 : w.heap.size + 1 < w1.heap.size := by omega
  have i5 := rules_index_8
  go_wp2_with fail
  refine wp_region_steady (fun w' => ∃ n, w' = World.drewN _ n) 12 (by kernel_rfl) (by kernel_rfl) ⟨1, rfl⟩ ?_
  simp only [List.take_succ_cons, List.take_zero, List.drop_succ_cons, List.drop_zero]
  repeat (quiet_step ((go_at_call 29; exact Calls.quiet_of_same ((style_same_calls _ _).mono fun _ _ ⟨he, hw⟩ => ⟨he, hw.symm⟩))))
  refine wpQuiet_nil ?_
  intro _ hw'
  obtain ⟨nq, hw''⟩ := hw'
  subst hw''
  go_wp2
  refine bodyPost_ret (v := .tuple #[.agg #[.int .i64 (l), .bool true], .int .i64 0]) (by simp [results, Try.results11, go_sem, *]) rfl ⟨rfl, ?_⟩
  refine Below.setCell (Below.setCell (below_drewN (Below.alloc hbb ?_ _) _) ?_ _) ?_ _ <;> go_size

set_option maxHeartbeats 1000000 in
theorem slot_8_0_false (l : Int) (w : World) (h0 : 0 ≤ l) (h3 : l ≤ 3) :
    Calls Try.prog 11 #[.int .i64 8, .int .i64 0, .agg #[.int .i64 l, .bool false]] w (Gives (.tuple #[.agg #[.int .i64 (l), .bool false], .int .i64 0]) w) := by
  have hv : (decide (0 ≤ l) && decide (l ≤ 3)) = true := by simp; omega
  go_enter Try.func11, Try.ntmps11
  go_wp2_with fail
  refine (style_Valid_calls _ _ _).mono ?_
  rintro e w' ⟨rfl, rfl⟩
  go_wp2_with fail
  refine (style_rules_calls_8 _).mono ?_
  rintro e w1 ⟨rfl, hb, c0, c1, c2, c3⟩
  simp only [World.size_alloc] at hb c0 c1 c2 c3
  have d0 := hb.cell (p := ⟨w.heap.size, 0, none⟩) (by simp; omega)
  have d1 := hb.cell (p := ⟨w.heap.size, 1, none⟩) (by simp; omega)
  have d2 := hb.cell (p := ⟨w.heap.size + 1, 0, none⟩) (by simp)
  have d3 := hb.cell (p := ⟨w.heap.size + 1, 1, none⟩) (by simp)
  have f2 := hb.frozen (p := ⟨w.heap.size + 1, 0, none⟩) (by simp)
  have f3 := hb.frozen (p := ⟨w.heap.size + 1, 1, none⟩) (by simp)
  simp [go_sem] at d0 d1 d2 d3 f2 f3
  have hz : w.heap.size + 1 + 1 + 1 ≤ w1.heap.size := by simpa using hb.size
  have hbb : Below w.heap.size w w1 := ((((Below.refl _ _).alloc (Nat.le_refl _) _).alloc (by go_size) _).alloc (by go_size) _).trans (hb.mono (by go_size))
  have hz0 : w.heap.size < w1.heap.size := by omega
  have hz1 : w.heap.size + 1 < w1.heap.size := by omega
  have i5 := rules_index_8
  go_wp2_with fail
  refine wp_region_steady (fun w' => ∃ n, w' = World.drewN _ n) 12 (by kernel_rfl) (by kernel_rfl) ⟨1, rfl⟩ ?_
  simp only [List.take_succ_cons, List.take_zero, List.drop_succ_cons, List.drop_zero]
  repeat (quiet_step ((go_at_call 29; exact Calls.quiet_of_same ((style_same_calls _ _).mono fun _ _ ⟨he, hw⟩ => ⟨he, hw.symm⟩))))
  refine wpQuiet_nil ?_
  intro _ hw'
  obtain ⟨nq, hw''⟩ := hw'
  subst hw''
  go_wp2
  refine bodyPost_ret (v := .tuple #[.agg #[.int .i64 (l), .bool false], .int .i64 0]) (by simp [results, Try.results11, go_sem, *]) rfl ⟨rfl, ?_⟩
  refine Below.setCell (Below.setCell (below_drewN (Below.alloc hbb ?_ _) _) ?_ _) ?_ _ <;> go_size

set_option maxHeartbeats 1000000 in
theorem slot_8_1_true (l : Int) (w : World) (h0 : 0 ≤ l) (h3 : l ≤ 3) :
    Calls Try.prog 11 #[.int .i64 8, .int .i64 1, .agg #[.int .i64 l, .bool true]] w (Gives (.tuple #[.agg #[.int .i64 (2 + l / 2), .bool true], .int .i64 0]) w) := by
  have hv : (decide (0 ≤ l) && decide (l ≤ 3)) = true := by simp; omega
  go_enter Try.func11, Try.ntmps11
  go_wp2_with fail
  refine (style_Valid_calls _ _ _).mono ?_
  rintro e w' ⟨rfl, rfl⟩
  go_wp2_with fail
  refine (style_rules_calls_8 _).mono ?_
  rintro e w1 ⟨rfl, hb, c0, c1, c2, c3⟩
  simp only [World.size_alloc] at hb c0 c1 c2 c3
  have d0 := hb.cell (p := ⟨w.heap.size, 0, none⟩) (by simp; omega)
  have d1 := hb.cell (p := ⟨w.heap.size, 1, none⟩) (by simp; omega)
  have d2 := hb.cell (p := ⟨w.heap.size + 1, 0, none⟩) (by simp)
  have d3 := hb.cell (p := ⟨w.heap.size + 1, 1, none⟩) (by simp)
  have f2 := hb.frozen (p := ⟨w.heap.size + 1, 0, none⟩) (by simp)
  have f3 := hb.frozen (p := ⟨w.heap.size + 1, 1, none⟩) (by simp)
  simp [go_sem] at d0 d1 d2 d3 f2 f3
  have hz : w.heap.size + 1 + 1 + 1 ≤ w1.heap.size := by simpa using hb.size
  have hbb : Below w.heap.size w w1 := ((((Below.refl _ _).alloc (Nat.le_refl _) _).alloc (by go_size) _).alloc (by go_size) _).trans (hb.mono (by go_size))
  have hz0 : w.heap.size < w1.heap.size := by omega
  have hz1 : w.heap.size + 1 < w1.heap.size := by omega
  have i5 := rules_index_8
  go_wp2_with fail
  refine wp_region_steady (fun w' => ∃ n, w' = World.drewN _ n) 12 (by kernel_rfl) (by kernel_rfl) ⟨1, rfl⟩ ?_
  simp only [List.take_succ_cons, List.take_zero, List.drop_succ_cons, List.drop_zero]
  repeat (quiet_step ((go_at_call 30; exact Calls.quiet_of_same ((style_script_calls _ _ h0 h3).mono fun _ _ ⟨he, hw⟩ => ⟨he, hw.symm⟩))))
  refine wpQuiet_nil ?_
  intro _ hw'
  obtain ⟨nq, hw''⟩ := hw'
  subst hw''
  go_wp2
  refine bodyPost_ret (v := .tuple #[.agg #[.int .i64 (2 + l / 2), .bool true], .int .i64 0]) (by simp [results, Try.results11, go_sem, *]) rfl ⟨rfl, ?_⟩
  refine Below.setCell (Below.setCell (below_drewN (Below.alloc hbb ?_ _) _) ?_ _) ?_ _ <;> go_size

set_option maxHeartbeats 1000000 in
theorem slot_8_1_false (l : Int) (w : World) (h0 : 0 ≤ l) (h3 : l ≤ 3) :
    Calls Try.prog 11 #[.int .i64 8, .int .i64 1, .agg #[.int .i64 l, .bool false]] w (Gives (.tuple #[.agg #[.int .i64 (2 + l / 2), .bool false], .int .i64 0]) w) := by
  have hv : (decide (0 ≤ l) && decide (l ≤ 3)) = true := by simp; omega
  go_enter Try.func11, Try.ntmps11
  go_wp2_with fail
  refine (style_Valid_calls _ _ _).mono ?_
  rintro e w' ⟨rfl, rfl⟩
  go_wp2_with fail
  refine (style_rules_calls_8 _).mono ?_
  rintro e w1 ⟨rfl, hb, c0, c1, c2, c3⟩
  simp only [World.size_alloc] at hb c0 c1 c2 c3
  have d0 := hb.cell (p := ⟨w.heap.size, 0, none⟩) (by simp; omega)
  have d1 := hb.cell (p := ⟨w.heap.size, 1, none⟩) (by simp; omega)
  have d2 := hb.cell (p := ⟨w.heap.size + 1, 0, none⟩) (by simp)
  have d3 := hb.cell (p := ⟨w.heap.size + 1, 1, none⟩) (by simp)
  have f2 := hb.frozen (p := ⟨w.heap.size + 1, 0, none⟩) (by simp)
  have f3 := hb.frozen (p := ⟨w.heap.size + 1, 1, none⟩) (by simp)
  simp [go_sem] at d0 d1 d2 d3 f2 f3
  have hz : w.heap.size + 1 + 1 + 1 ≤ w1.heap.size := by simpa using hb.size
  have hbb : Below w.heap.size w w1 := ((((Below.refl _ _).alloc (Nat.le_refl _) _).alloc (by go_size) _).alloc (by go_size) _).trans (hb.mono (by go_size))
  have hz0 : w.heap.size < w1.heap.size := by omega
  have hz1 : w.heap.size + 1 < w1.heap.size := by omega
  have i5 := rules_index_8
  go_wp2_with fail
  refine wp_region_steady (fun w' => ∃ n, w' = World.drewN _ n) 12 (by kernel_rfl) (by kernel_rfl) ⟨1, rfl⟩ ?_
  simp only [List.take_succ_cons, List.take_zero, List.drop_succ_cons, List.drop_zero]
  repeat (quiet_step ((go_at_call 30; exact Calls.quiet_of_same ((style_script_calls _ _ h0 h3).mono fun _ _ ⟨he, hw⟩ => ⟨he, hw.symm⟩))))
  refine wpQuiet_nil ?_
  intro _ hw'
  obtain ⟨nq, hw''⟩ := hw'
  subst hw''
  go_wp2
  refine bodyPost_ret (v := .tuple #[.agg #[.int .i64 (2 + l / 2), .bool false], .int .i64 0]) (by simp [results, Try.results11, go_sem, *]) rfl ⟨rfl, ?_⟩
  refine Below.setCell (Below.setCell (below_drewN (Below.alloc hbb ?_ _) _) ?_ _) ?_ _ <;> go_size

end Go.Proofs.Ytillohdeljlchaa
