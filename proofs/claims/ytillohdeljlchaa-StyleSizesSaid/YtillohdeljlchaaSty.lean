/- The functions of package style and of its reference: what each call returns. -/
import Derived.Test.YtillohdeljlchaaBase
namespace Go.Proofs.Ytillohdeljlchaa
open Go.RowKit

set_option maxHeartbeats 400000 in
theorem style_Valid_calls (a : Int) (c : Bool) (w : World) :
    Calls Try.prog 12 #[.agg #[.int .i64 a, .bool c]] w fun e w' => e = .returned (.bool (decide (0 ≤ a) && decide (a ≤ 3))) ∧ w.alloc (.cells #[.int .i64 a, .bool c] 23) = w' := by
  go_enter Try.func12, Try.ntmps12
  go_wp2
  all_goals go_ret
  all_goals (refine ⟨ret_bool ?_, rfl⟩; first | omega | (simp; omega))

set_option maxHeartbeats 400000 in
theorem ref25_Valid_calls (a : Int) (c : Bool) (w : World) :
    Calls Try.prog 14 #[.agg #[.int .i64 a, .bool c]] w fun e w' => e = .returned (.bool (decide (0 ≤ a) && decide (a ≤ 3))) ∧ w.alloc (.cells #[.int .i64 a, .bool c] 23) = w' := by
  go_enter Try.func14, Try.ntmps14
  go_wp2
  all_goals go_ret
  all_goals (refine ⟨ret_bool ?_, rfl⟩; first | omega | (simp; omega))

theorem style_Valid_gives (a : Int) (c : Bool) (w : World) : Calls Try.prog 12 #[.agg #[.int .i64 a, .bool c]] w (Gives (.bool (decide (0 ≤ a) && decide (a ≤ 3))) w) :=
  (style_Valid_calls a c w).mono fun _ _ ⟨he, hw⟩ => hw ▸ ⟨he, (Below.refl _ _).alloc (Nat.le_refl _) _⟩
theorem ref25_Valid_gives (a : Int) (c : Bool) (w : World) : Calls Try.prog 14 #[.agg #[.int .i64 a, .bool c]] w (Gives (.bool (decide (0 ≤ a) && decide (a ≤ 3))) w) :=
  (ref25_Valid_calls a c w).mono fun _ _ ⟨he, hw⟩ => hw ▸ ⟨he, (Below.refl _ _).alloc (Nat.le_refl _) _⟩

set_option maxHeartbeats 400000 in
theorem style_Cramp_calls (a : Int) (c : Bool) (w : World) :
    Calls Try.prog 15 #[.agg #[.int .i64 a, .bool c]] w (Gives (.agg #[.int .i64 a, .bool true]) w) := by
  go_enter Try.func15, Try.ntmps15
  go_wp2
  refine bodyPost_ret (v := .agg #[.int .i64 a, .bool true]) (by simp [results, Try.results15, go_sem]) rfl ⟨rfl, ?_⟩
  exact ((Below.refl _ _).alloc (Nat.le_refl _) _).alloc (by simp) _

set_option maxHeartbeats 400000 in
theorem style_next_calls (a : Int) (w : World) (h0 : 0 ≤ a) (h3 : a ≤ 3) :
    Calls Try.prog 27 #[.int .i64 a] w fun e w' => e = .returned (.int .i64 (min (a + 1) 3)) ∧ w = w' := by
  go_enter Try.func27, Try.ntmps27
  go_wp2
  all_goals go_ret
  all_goals (refine ⟨ret_int ?_, rfl⟩; first | omega | (simp; omega))

set_option maxHeartbeats 400000 in
theorem style_least_calls (a : Int) (w : World) :
    Calls Try.prog 28 #[.int .i64 a] w fun e w' => e = .returned (.int .i64 3) ∧ w = w' := by
  go_enter Try.func28, Try.ntmps28
  go_wp2
  go_ret
  exact ⟨rfl, rfl⟩

set_option maxHeartbeats 400000 in
theorem style_same_calls (a : Int) (w : World) :
    Calls Try.prog 29 #[.int .i64 a] w fun e w' => e = .returned (.int .i64 a) ∧ w = w' := by
  go_enter Try.func29, Try.ntmps29
  go_wp2
  go_ret
  exact ⟨rfl, rfl⟩

set_option maxHeartbeats 400000 in
theorem style_script_calls (a : Int) (w : World) (h0 : 0 ≤ a) (h3 : a ≤ 3) :
    Calls Try.prog 30 #[.int .i64 a] w fun e w' => e = .returned (.int .i64 (2 + a / 2)) ∧ w = w' := by
  go_enter Try.func30, Try.ntmps30
  go_wp2
  go_ret
  exact ⟨rfl, rfl⟩

set_option maxHeartbeats 400000 in
theorem style_cell_calls (a : Int) (w : World) :
    Calls Try.prog 31 #[.int .i64 a] w fun e w' => e = .returned (.int .i64 (max a 1)) ∧ w = w' := by
  go_enter Try.func31, Try.ntmps31
  go_wp2
  all_goals go_ret
  all_goals (refine ⟨ret_int ?_, rfl⟩; first | omega | (simp; omega))

/-- The value that style.rules returns, where the heap had n blocks. -/
def rulesVal (n : Nat) : Value := .agg #[.slice none 0 0, .slice none 0 0, .slice none 0 0, .slice none 0 0, .slice none 0 0, .slice (some ⟨n + 1, 0, none⟩) 2 2, .slice (some ⟨n + 1 + 1, 0, none⟩) 2 2, .slice (some ⟨n + 1 + 1 + 1, 0, none⟩) 2 2, .slice (some ⟨n + 1 + 1 + 1 + 1, 0, none⟩) 2 2, .slice (some ⟨n + 1 + 1 + 1 + 1 + 1, 0, none⟩) 3 3, .slice (some ⟨n + 1 + 1 + 1 + 1 + 1 + 1, 0, none⟩) 1 1, .slice (some ⟨n + 1 + 1 + 1 + 1 + 1 + 1 + 1, 0, none⟩) 1 1, .slice (some ⟨n + 1 + 1 + 1 + 1 + 1 + 1 + 1 + 1, 0, none⟩) 1 1]
/-- The blocks that style.rules makes. -/
def rulesWorld (w : World) : World :=
  (((((((((w.alloc (.cells #[.slice none 0 0, .slice none 0 0, .slice none 0 0, .slice none 0 0, .slice none 0 0, .slice (some ⟨w.heap.size + 1, 0, none⟩) 2 2, .slice (some ⟨w.heap.size + 1 + 1, 0, none⟩) 2 2, .slice (some ⟨w.heap.size + 1 + 1 + 1, 0, none⟩) 2 2, .slice (some ⟨w.heap.size + 1 + 1 + 1 + 1, 0, none⟩) 2 2, .slice (some ⟨w.heap.size + 1 + 1 + 1 + 1 + 1, 0, none⟩) 3 3, .slice (some ⟨w.heap.size + 1 + 1 + 1 + 1 + 1 + 1, 0, none⟩) 1 1, .slice (some ⟨w.heap.size + 1 + 1 + 1 + 1 + 1 + 1 + 1, 0, none⟩) 1 1, .slice (some ⟨w.heap.size + 1 + 1 + 1 + 1 + 1 + 1 + 1 + 1, 0, none⟩) 1 1] 47)).alloc (.cells #[.func (.func 27) #[] #[], .bool false, .func (.func 27) #[] #[], .bool true] 51)).alloc (.cells #[.func (.func 28) #[] #[], .bool false, .func (.func 29) #[] #[], .bool true] 51)).alloc (.cells #[.func (.func 29) #[] #[], .bool false, .func (.func 30) #[] #[], .bool true] 51)).alloc (.cells #[.func (.func 29) #[] #[], .bool false, .func (.func 30) #[] #[], .bool false] 51)).alloc (.cells #[.func (.func 29) #[] #[], .bool false, .func (.func 30) #[] #[], .bool true, .func (.func 30) #[] #[], .bool false] 51)).alloc (.cells #[.func (.func 29) #[] #[], .bool true] 51)).alloc (.cells #[.func (.func 29) #[] #[], .bool false] 51)).alloc (.cells #[.func (.func 31) #[] #[], .bool false] 51))

set_option maxHeartbeats 1000000 in
theorem style_rules_calls (w : World) :
    Calls Try.prog 21 #[] w fun e w' => e = .returned (rulesVal w.heap.size) ∧ rulesWorld w = w' := by
  go_enter Try.func21, Try.ntmps21
  go_wp2
  refine bodyPost_ret (v := rulesVal w.heap.size) (by simp [results, Try.results21, rulesVal, go_sem]) rfl ⟨rfl, rfl⟩

theorem rulesWorld_below (w : World) : Below w.heap.size w (rulesWorld w) := by
  unfold rulesWorld
  exact (((((((((Below.refl _ _).alloc (by go_size) _).alloc (by go_size) _).alloc (by go_size) _).alloc (by go_size) _).alloc (by go_size) _).alloc (by go_size) _).alloc (by go_size) _).alloc (by go_size) _).alloc (by go_size) _

theorem rulesWorld_5 (w : World) : (rulesWorld w).cell? ⟨w.heap.size + 1, 0, none⟩ = some (.func (.func 27) #[] #[]) ∧ (rulesWorld w).cell? ⟨w.heap.size + 1, 1, none⟩ = some (.bool false) ∧ (rulesWorld w).cell? ⟨w.heap.size + 1, 2, none⟩ = some (.func (.func 27) #[] #[]) ∧ (rulesWorld w).cell? ⟨w.heap.size + 1, 3, none⟩ = some (.bool true) := by
  unfold rulesWorld
  refine ⟨?_, ?_, ?_, ?_⟩ <;> simp [go_sem]

theorem rulesWorld_6 (w : World) : (rulesWorld w).cell? ⟨w.heap.size + 1 + 1, 0, none⟩ = some (.func (.func 28) #[] #[]) ∧ (rulesWorld w).cell? ⟨w.heap.size + 1 + 1, 1, none⟩ = some (.bool false) ∧ (rulesWorld w).cell? ⟨w.heap.size + 1 + 1, 2, none⟩ = some (.func (.func 29) #[] #[]) ∧ (rulesWorld w).cell? ⟨w.heap.size + 1 + 1, 3, none⟩ = some (.bool true) := by
  unfold rulesWorld
  refine ⟨?_, ?_, ?_, ?_⟩ <;> simp [go_sem]

theorem rulesWorld_7 (w : World) : (rulesWorld w).cell? ⟨w.heap.size + 1 + 1 + 1, 0, none⟩ = some (.func (.func 29) #[] #[]) ∧ (rulesWorld w).cell? ⟨w.heap.size + 1 + 1 + 1, 1, none⟩ = some (.bool false) ∧ (rulesWorld w).cell? ⟨w.heap.size + 1 + 1 + 1, 2, none⟩ = some (.func (.func 30) #[] #[]) ∧ (rulesWorld w).cell? ⟨w.heap.size + 1 + 1 + 1, 3, none⟩ = some (.bool true) := by
  unfold rulesWorld
  refine ⟨?_, ?_, ?_, ?_⟩ <;> simp [go_sem]

theorem rulesWorld_8 (w : World) : (rulesWorld w).cell? ⟨w.heap.size + 1 + 1 + 1 + 1, 0, none⟩ = some (.func (.func 29) #[] #[]) ∧ (rulesWorld w).cell? ⟨w.heap.size + 1 + 1 + 1 + 1, 1, none⟩ = some (.bool false) ∧ (rulesWorld w).cell? ⟨w.heap.size + 1 + 1 + 1 + 1, 2, none⟩ = some (.func (.func 30) #[] #[]) ∧ (rulesWorld w).cell? ⟨w.heap.size + 1 + 1 + 1 + 1, 3, none⟩ = some (.bool false) := by
  unfold rulesWorld
  refine ⟨?_, ?_, ?_, ?_⟩ <;> simp [go_sem]

theorem rulesWorld_9 (w : World) : (rulesWorld w).cell? ⟨w.heap.size + 1 + 1 + 1 + 1 + 1, 0, none⟩ = some (.func (.func 29) #[] #[]) ∧ (rulesWorld w).cell? ⟨w.heap.size + 1 + 1 + 1 + 1 + 1, 1, none⟩ = some (.bool false) ∧ (rulesWorld w).cell? ⟨w.heap.size + 1 + 1 + 1 + 1 + 1, 2, none⟩ = some (.func (.func 30) #[] #[]) ∧ (rulesWorld w).cell? ⟨w.heap.size + 1 + 1 + 1 + 1 + 1, 3, none⟩ = some (.bool true) ∧ (rulesWorld w).cell? ⟨w.heap.size + 1 + 1 + 1 + 1 + 1, 4, none⟩ = some (.func (.func 30) #[] #[]) ∧ (rulesWorld w).cell? ⟨w.heap.size + 1 + 1 + 1 + 1 + 1, 5, none⟩ = some (.bool false) := by
  unfold rulesWorld
  refine ⟨?_, ?_, ?_, ?_, ?_, ?_⟩ <;> simp [go_sem]

theorem rulesWorld_10 (w : World) : (rulesWorld w).cell? ⟨w.heap.size + 1 + 1 + 1 + 1 + 1 + 1, 0, none⟩ = some (.func (.func 29) #[] #[]) ∧ (rulesWorld w).cell? ⟨w.heap.size + 1 + 1 + 1 + 1 + 1 + 1, 1, none⟩ = some (.bool true) := by
  unfold rulesWorld
  refine ⟨?_, ?_⟩ <;> simp [go_sem]

theorem rulesWorld_11 (w : World) : (rulesWorld w).cell? ⟨w.heap.size + 1 + 1 + 1 + 1 + 1 + 1 + 1, 0, none⟩ = some (.func (.func 29) #[] #[]) ∧ (rulesWorld w).cell? ⟨w.heap.size + 1 + 1 + 1 + 1 + 1 + 1 + 1, 1, none⟩ = some (.bool false) := by
  unfold rulesWorld
  refine ⟨?_, ?_⟩ <;> simp [go_sem]

theorem rulesWorld_12 (w : World) : (rulesWorld w).cell? ⟨w.heap.size + 1 + 1 + 1 + 1 + 1 + 1 + 1 + 1, 0, none⟩ = some (.func (.func 31) #[] #[]) ∧ (rulesWorld w).cell? ⟨w.heap.size + 1 + 1 + 1 + 1 + 1 + 1 + 1 + 1, 1, none⟩ = some (.bool false) := by
  unfold rulesWorld
  refine ⟨?_, ?_⟩ <;> simp [go_sem]

theorem rules_index_5 (n : Nat) (w : World) : (Instr.index 47 (rulesVal n) (.int .i64 5)).run Try.prog w = .ok (.slice (some ⟨n + 1, 0, none⟩) 2 2) w := by kernel_rfl
theorem rules_index_6 (n : Nat) (w : World) : (Instr.index 47 (rulesVal n) (.int .i64 6)).run Try.prog w = .ok (.slice (some ⟨n + 1 + 1, 0, none⟩) 2 2) w := by kernel_rfl
theorem rules_index_7 (n : Nat) (w : World) : (Instr.index 47 (rulesVal n) (.int .i64 7)).run Try.prog w = .ok (.slice (some ⟨n + 1 + 1 + 1, 0, none⟩) 2 2) w := by kernel_rfl
theorem rules_index_8 (n : Nat) (w : World) : (Instr.index 47 (rulesVal n) (.int .i64 8)).run Try.prog w = .ok (.slice (some ⟨n + 1 + 1 + 1 + 1, 0, none⟩) 2 2) w := by kernel_rfl
theorem rules_index_9 (n : Nat) (w : World) : (Instr.index 47 (rulesVal n) (.int .i64 9)).run Try.prog w = .ok (.slice (some ⟨n + 1 + 1 + 1 + 1 + 1, 0, none⟩) 3 3) w := by kernel_rfl
theorem rules_index_10 (n : Nat) (w : World) : (Instr.index 47 (rulesVal n) (.int .i64 10)).run Try.prog w = .ok (.slice (some ⟨n + 1 + 1 + 1 + 1 + 1 + 1, 0, none⟩) 1 1) w := by kernel_rfl
theorem rules_index_11 (n : Nat) (w : World) : (Instr.index 47 (rulesVal n) (.int .i64 11)).run Try.prog w = .ok (.slice (some ⟨n + 1 + 1 + 1 + 1 + 1 + 1 + 1, 0, none⟩) 1 1) w := by kernel_rfl
theorem rules_index_12 (n : Nat) (w : World) : (Instr.index 47 (rulesVal n) (.int .i64 12)).run Try.prog w = .ok (.slice (some ⟨n + 1 + 1 + 1 + 1 + 1 + 1 + 1 + 1, 0, none⟩) 1 1) w := by kernel_rfl

end Go.Proofs.Ytillohdeljlchaa
