/- The reference's Slot. -/
import Derived.Test.YtillohdeljlchaaSty
import Derived.Test.YtillohdeljlchaaReg
namespace Go.Proofs.Ytillohdeljlchaa
open Go.RowKit

/-- How many slots a kind has. -/
def slotsOf (k : Int) : Int := if k = 5 ∨ k = 6 ∨ k = 7 ∨ k = 8 then 2 else if k = 9 then 3 else if k = 10 ∨ k = 11 then 1 else if k = 12 then 256 else 0

set_option maxHeartbeats 400000 in
theorem ref25_slots_calls (k : Int) (w : World) :
    Calls Try.prog 22 #[.int .i64 k] w fun e w' => e = .returned (.int .i64 (slotsOf k)) ∧ w = w' := by
  go_enter Try.func22, Try.ntmps22
  go_wp2
  all_goals go_ret
  all_goals (refine ⟨ret_int ?_, rfl⟩; simp only [beq_iff_eq, beq_eq_false_iff_ne, ne_eq] at *; unfold slotsOf; simp [*])

set_option maxHeartbeats 400000 in
theorem ref25_script_calls (a : Int) (w : World) (h0 : 0 ≤ a) (h3 : a ≤ 3) :
    Calls Try.prog 23 #[.int .i64 a] w fun e w' => e = .returned (.int .i64 (2 + a / 2)) ∧ w = w' := by
  go_enter Try.func23, Try.ntmps23
  go_wp2
  all_goals go_ret
  all_goals (refine ⟨ret_int ?_, rfl⟩; omega)

set_option maxHeartbeats 1000000 in
theorem rslot_err_lo (k s l : Int) (c : Bool) (w : World) (h : l < 0) :
    Calls Try.prog 13 #[.int .i64 k, .int .i64 s, .agg #[.int .i64 l, .bool c]] w (Gives (.tuple #[.agg #[.int .i64 0, .bool false], .int .i64 1]) w) := by
  have hv : (decide (0 ≤ l) && decide (l ≤ 3)) = false := by simp; omega
  go_enter Try.func13, Try.ntmps13
  go_wp2_with fail
  refine (ref25_Valid_calls _ _ _).mono ?_
  rintro e w' ⟨rfl, rfl⟩
  go_wp2_with fail
  refine bodyPost_ret (v := .tuple #[.agg #[.int .i64 0, .bool false], .int .i64 1]) (by simp [results, Try.results13, go_sem, *]) rfl ⟨rfl, ?_⟩
  go_grown

set_option maxHeartbeats 1000000 in
theorem rslot_err_hi (k s l : Int) (c : Bool) (w : World) (h : 3 < l) :
    Calls Try.prog 13 #[.int .i64 k, .int .i64 s, .agg #[.int .i64 l, .bool c]] w (Gives (.tuple #[.agg #[.int .i64 0, .bool false], .int .i64 1]) w) := by
  have hv : (decide (0 ≤ l) && decide (l ≤ 3)) = false := by simp; omega
  go_enter Try.func13, Try.ntmps13
  go_wp2_with fail
  refine (ref25_Valid_calls _ _ _).mono ?_
  rintro e w' ⟨rfl, rfl⟩
  go_wp2_with fail
  refine bodyPost_ret (v := .tuple #[.agg #[.int .i64 0, .bool false], .int .i64 1]) (by simp [results, Try.results13, go_sem, *]) rfl ⟨rfl, ?_⟩
  go_grown

set_option maxHeartbeats 1000000 in
theorem rslot_err_k (k s l : Int) (c : Bool) (w : World) (h0 : 0 ≤ l) (h3 : l ≤ 3) (h : k < 5 ∨ 12 < k) :
    Calls Try.prog 13 #[.int .i64 k, .int .i64 s, .agg #[.int .i64 l, .bool c]] w (Gives (.tuple #[.agg #[.int .i64 0, .bool false], .int .i64 1]) w) := by
  have hs : slotsOf k = 0 := by unfold slotsOf; rw [if_neg (by omega), if_neg (by omega), if_neg (by omega), if_neg (by omega)]
  clear h
  have hv : (decide (0 ≤ l) && decide (l ≤ 3)) = true := by simp; omega
  go_enter Try.func13, Try.ntmps13
  go_wp2_with fail
  refine (ref25_Valid_calls _ _ _).mono ?_
  rintro e w' ⟨rfl, rfl⟩
  go_wp2_with fail
  refine (ref25_slots_calls _ _).mono ?_
  rintro e w' ⟨rfl, rfl⟩
  go_wp2_with fail
  refine bodyPost_ret (v := .tuple #[.agg #[.int .i64 0, .bool false], .int .i64 1]) (by simp [results, Try.results13, go_sem, *]) rfl ⟨rfl, ?_⟩
  go_grown

set_option maxHeartbeats 1000000 in
theorem rslot_5_neg (s l : Int) (c : Bool) (w : World) (h0 : 0 ≤ l) (h3 : l ≤ 3) (h : s < 0) :
    Calls Try.prog 13 #[.int .i64 5, .int .i64 s, .agg #[.int .i64 l, .bool c]] w (Gives (.tuple #[.agg #[.int .i64 0, .bool false], .int .i64 2]) w) := by
  have hs : slotsOf 5 = 2 := rfl
  have hv : (decide (0 ≤ l) && decide (l ≤ 3)) = true := by simp; omega
  go_enter Try.func13, Try.ntmps13
  go_wp2_with fail
  refine (ref25_Valid_calls _ _ _).mono ?_
  rintro e w' ⟨rfl, rfl⟩
  go_wp2_with fail
  refine (ref25_slots_calls _ _).mono ?_
  rintro e w' ⟨rfl, rfl⟩
  go_wp2_with fail
  refine bodyPost_ret (v := .tuple #[.agg #[.int .i64 0, .bool false], .int .i64 2]) (by simp [results, Try.results13, go_sem, *]) rfl ⟨rfl, ?_⟩
  go_grown

set_option maxHeartbeats 1000000 in
theorem rslot_5_big (s l : Int) (c : Bool) (w : World) (h0 : 0 ≤ l) (h3 : l ≤ 3) (h : 2 ≤ s) :
    Calls Try.prog 13 #[.int .i64 5, .int .i64 s, .agg #[.int .i64 l, .bool c]] w (Gives (.tuple #[.agg #[.int .i64 0, .bool false], .int .i64 2]) w) := by
  have hs : slotsOf 5 = 2 := rfl
  have hv : (decide (0 ≤ l) && decide (l ≤ 3)) = true := by simp; omega
  go_enter Try.func13, Try.ntmps13
  go_wp2_with fail
  refine (ref25_Valid_calls _ _ _).mono ?_
  rintro e w' ⟨rfl, rfl⟩
  go_wp2_with fail
  refine (ref25_slots_calls _ _).mono ?_
  rintro e w' ⟨rfl, rfl⟩
  go_wp2_with fail
  refine (ref25_slots_calls _ _).mono ?_
  rintro e w' ⟨rfl, rfl⟩
  go_wp2_with fail
  refine bodyPost_ret (v := .tuple #[.agg #[.int .i64 0, .bool false], .int .i64 2]) (by simp [results, Try.results13, go_sem, *]) rfl ⟨rfl, ?_⟩
  go_grown

set_option maxHeartbeats 1000000 in
theorem rslot_5_0_true (l : Int) (w : World) (h0 : 0 ≤ l) (h3 : l ≤ 3) :
    Calls Try.prog 13 #[.int .i64 5, .int .i64 0, .agg #[.int .i64 l, .bool true]] w (Gives (.tuple #[.agg #[.int .i64 (min (l + 1) 3), .bool true], .int .i64 0]) w) := by
  have hs : slotsOf 5 = 2 := rfl
  have hv : (decide (0 ≤ l) && decide (l ≤ 3)) = true := by simp; omega
  go_enter Try.func13, Try.ntmps13
  go_wp2_with fail
  refine (ref25_Valid_calls _ _ _).mono ?_
  rintro e w' ⟨rfl, rfl⟩
  go_wp2_with fail
  refine (ref25_slots_calls _ _).mono ?_
  rintro e w' ⟨rfl, rfl⟩
  go_wp2_with fail
  refine (ref25_slots_calls _ _).mono ?_
  rintro e w' ⟨rfl, rfl⟩
  go_wp2_with fail
  all_goals (refine bodyPost_ret (v := .tuple #[.agg #[.int .i64 (min (l + 1) 3), .bool true], .int .i64 0]) (by simp [results, Try.results13, go_sem, *]; try omega) rfl ⟨rfl, ?_⟩; go_grown)

set_option maxHeartbeats 1000000 in
theorem rslot_5_0_false (l : Int) (w : World) (h0 : 0 ≤ l) (h3 : l ≤ 3) :
    Calls Try.prog 13 #[.int .i64 5, .int .i64 0, .agg #[.int .i64 l, .bool false]] w (Gives (.tuple #[.agg #[.int .i64 (min (l + 1) 3), .bool false], .int .i64 0]) w) := by
  have hs : slotsOf 5 = 2 := rfl
  have hv : (decide (0 ≤ l) && decide (l ≤ 3)) = true := by simp; omega
  go_enter Try.func13, Try.ntmps13
  go_wp2_with fail
  refine (ref25_Valid_calls _ _ _).mono ?_
  rintro e w' ⟨rfl, rfl⟩
  go_wp2_with fail
  refine (ref25_slots_calls _ _).mono ?_
  rintro e w' ⟨rfl, rfl⟩
  go_wp2_with fail
  refine (ref25_slots_calls _ _).mono ?_
  rintro e w' ⟨rfl, rfl⟩
  go_wp2_with fail
  all_goals (refine bodyPost_ret (v := .tuple #[.agg #[.int .i64 (min (l + 1) 3), .bool false], .int .i64 0]) (by simp [results, Try.results13, go_sem, *]; try omega) rfl ⟨rfl, ?_⟩; go_grown)

set_option maxHeartbeats 1000000 in
theorem rslot_5_1_true (l : Int) (w : World) (h0 : 0 ≤ l) (h3 : l ≤ 3) :
    Calls Try.prog 13 #[.int .i64 5, .int .i64 1, .agg #[.int .i64 l, .bool true]] w (Gives (.tuple #[.agg #[.int .i64 (min (l + 1) 3), .bool true], .int .i64 0]) w) := by
  have hs : slotsOf 5 = 2 := rfl
  have hv : (decide (0 ≤ l) && decide (l ≤ 3)) = true := by simp; omega
  go_enter Try.func13, Try.ntmps13
  go_wp2_with fail
  refine (ref25_Valid_calls _ _ _).mono ?_
  rintro e w' ⟨rfl, rfl⟩
  go_wp2_with fail
  refine (ref25_slots_calls _ _).mono ?_
  rintro e w' ⟨rfl, rfl⟩
  go_wp2_with fail
  refine (ref25_slots_calls _ _).mono ?_
  rintro e w' ⟨rfl, rfl⟩
  go_wp2_with fail
  all_goals (refine bodyPost_ret (v := .tuple #[.agg #[.int .i64 (min (l + 1) 3), .bool true], .int .i64 0]) (by simp [results, Try.results13, go_sem, *]; try omega) rfl ⟨rfl, ?_⟩; go_grown)

set_option maxHeartbeats 1000000 in
theorem rslot_5_1_false (l : Int) (w : World) (h0 : 0 ≤ l) (h3 : l ≤ 3) :
    Calls Try.prog 13 #[.int .i64 5, .int .i64 1, .agg #[.int .i64 l, .bool false]] w (Gives (.tuple #[.agg #[.int .i64 (min (l + 1) 3), .bool true], .int .i64 0]) w) := by
  have hs : slotsOf 5 = 2 := rfl
  have hv : (decide (0 ≤ l) && decide (l ≤ 3)) = true := by simp; omega
  go_enter Try.func13, Try.ntmps13
  go_wp2_with fail
  refine (ref25_Valid_calls _ _ _).mono ?_
  rintro e w' ⟨rfl, rfl⟩
  go_wp2_with fail
  refine (ref25_slots_calls _ _).mono ?_
  rintro e w' ⟨rfl, rfl⟩
  go_wp2_with fail
  refine (ref25_slots_calls _ _).mono ?_
  rintro e w' ⟨rfl, rfl⟩
  go_wp2_with fail
  all_goals (refine bodyPost_ret (v := .tuple #[.agg #[.int .i64 (min (l + 1) 3), .bool true], .int .i64 0]) (by simp [results, Try.results13, go_sem, *]; try omega) rfl ⟨rfl, ?_⟩; go_grown)

set_option maxHeartbeats 1000000 in
theorem rslot_6_neg (s l : Int) (c : Bool) (w : World) (h0 : 0 ≤ l) (h3 : l ≤ 3) (h : s < 0) :
    Calls Try.prog 13 #[.int .i64 6, .int .i64 s, .agg #[.int .i64 l, .bool c]] w (Gives (.tuple #[.agg #[.int .i64 0, .bool false], .int .i64 2]) w) := by
  have hs : slotsOf 6 = 2 := rfl
  have hv : (decide (0 ≤ l) && decide (l ≤ 3)) = true := by simp; omega
  go_enter Try.func13, Try.ntmps13
  go_wp2_with fail
  refine (ref25_Valid_calls _ _ _).mono ?_
  rintro e w' ⟨rfl, rfl⟩
  go_wp2_with fail
  refine (ref25_slots_calls _ _).mono ?_
  rintro e w' ⟨rfl, rfl⟩
  go_wp2_with fail
  refine bodyPost_ret (v := .tuple #[.agg #[.int .i64 0, .bool false], .int .i64 2]) (by simp [results, Try.results13, go_sem, *]) rfl ⟨rfl, ?_⟩
  go_grown

set_option maxHeartbeats 1000000 in
theorem rslot_6_big (s l : Int) (c : Bool) (w : World) (h0 : 0 ≤ l) (h3 : l ≤ 3) (h : 2 ≤ s) :
    Calls Try.prog 13 #[.int .i64 6, .int .i64 s, .agg #[.int .i64 l, .bool c]] w (Gives (.tuple #[.agg #[.int .i64 0, .bool false], .int .i64 2]) w) := by
  have hs : slotsOf 6 = 2 := rfl
  have hv : (decide (0 ≤ l) && decide (l ≤ 3)) = true := by simp; omega
  go_enter Try.func13, Try.ntmps13
  go_wp2_with fail
  refine (ref25_Valid_calls _ _ _).mono ?_
  rintro e w' ⟨rfl, rfl⟩
  go_wp2_with fail
  refine (ref25_slots_calls _ _).mono ?_
  rintro e w' ⟨rfl, rfl⟩
  go_wp2_with fail
  refine (ref25_slots_calls _ _).mono ?_
  rintro e w' ⟨rfl, rfl⟩
  go_wp2_with fail
  refine bodyPost_ret (v := .tuple #[.agg #[.int .i64 0, .bool false], .int .i64 2]) (by simp [results, Try.results13, go_sem, *]) rfl ⟨rfl, ?_⟩
  go_grown

set_option maxHeartbeats 1000000 in
theorem rslot_6_0_true (l : Int) (w : World) (h0 : 0 ≤ l) (h3 : l ≤ 3) :
    Calls Try.prog 13 #[.int .i64 6, .int .i64 0, .agg #[.int .i64 l, .bool true]] w (Gives (.tuple #[.agg #[.int .i64 (3), .bool true], .int .i64 0]) w) := by
  have hs : slotsOf 6 = 2 := rfl
  have hv : (decide (0 ≤ l) && decide (l ≤ 3)) = true := by simp; omega
  go_enter Try.func13, Try.ntmps13
  go_wp2_with fail
  refine (ref25_Valid_calls _ _ _).mono ?_
  rintro e w' ⟨rfl, rfl⟩
  go_wp2_with fail
  refine (ref25_slots_calls _ _).mono ?_
  rintro e w' ⟨rfl, rfl⟩
  go_wp2_with fail
  refine (ref25_slots_calls _ _).mono ?_
  rintro e w' ⟨rfl, rfl⟩
  go_wp2_with fail
  refine bodyPost_ret (v := .tuple #[.agg #[.int .i64 (3), .bool true], .int .i64 0]) (by simp [results, Try.results13, go_sem, *]) rfl ⟨rfl, ?_⟩
  (repeat (first | (with_reducible exact Below.refl _ _) | (with_reducible refine Below.alloc ?_ ?_ _) | (with_reducible refine below_drewN ?_ _) | (with_reducible refine Below.setCell ?_ ?_ _) | go_size))

set_option maxHeartbeats 1000000 in
theorem rslot_6_0_false (l : Int) (w : World) (h0 : 0 ≤ l) (h3 : l ≤ 3) :
    Calls Try.prog 13 #[.int .i64 6, .int .i64 0, .agg #[.int .i64 l, .bool false]] w (Gives (.tuple #[.agg #[.int .i64 (3), .bool false], .int .i64 0]) w) := by
  have hs : slotsOf 6 = 2 := rfl
  have hv : (decide (0 ≤ l) && decide (l ≤ 3)) = true := by simp; omega
  go_enter Try.func13, Try.ntmps13
  go_wp2_with fail
  refine (ref25_Valid_calls _ _ _).mono ?_
  rintro e w' ⟨rfl, rfl⟩
  go_wp2_with fail
  refine (ref25_slots_calls _ _).mono ?_
  rintro e w' ⟨rfl, rfl⟩
  go_wp2_with fail
  refine (ref25_slots_calls _ _).mono ?_
  rintro e w' ⟨rfl, rfl⟩
  go_wp2_with fail
  refine bodyPost_ret (v := .tuple #[.agg #[.int .i64 (3), .bool false], .int .i64 0]) (by simp [results, Try.results13, go_sem, *]) rfl ⟨rfl, ?_⟩
  (repeat (first | (with_reducible exact Below.refl _ _) | (with_reducible refine Below.alloc ?_ ?_ _) | (with_reducible refine below_drewN ?_ _) | (with_reducible refine Below.setCell ?_ ?_ _) | go_size))

set_option maxHeartbeats 1000000 in
theorem rslot_6_1_true (l : Int) (w : World) (h0 : 0 ≤ l) (h3 : l ≤ 3) :
    Calls Try.prog 13 #[.int .i64 6, .int .i64 1, .agg #[.int .i64 l, .bool true]] w (Gives (.tuple #[.agg #[.int .i64 (l), .bool true], .int .i64 0]) w) := by
  have hs : slotsOf 6 = 2 := rfl
  have hv : (decide (0 ≤ l) && decide (l ≤ 3)) = true := by simp; omega
  go_enter Try.func13, Try.ntmps13
  go_wp2_with fail
  refine (ref25_Valid_calls _ _ _).mono ?_
  rintro e w' ⟨rfl, rfl⟩
  go_wp2_with fail
  refine (ref25_slots_calls _ _).mono ?_
  rintro e w' ⟨rfl, rfl⟩
  go_wp2_with fail
  refine (ref25_slots_calls _ _).mono ?_
  rintro e w' ⟨rfl, rfl⟩
  go_wp2_with fail
  refine bodyPost_ret (v := .tuple #[.agg #[.int .i64 (l), .bool true], .int .i64 0]) (by simp [results, Try.results13, go_sem, *]) rfl ⟨rfl, ?_⟩
  (repeat (first | (with_reducible exact Below.refl _ _) | (with_reducible refine Below.alloc ?_ ?_ _) | (with_reducible refine below_drewN ?_ _) | (with_reducible refine Below.setCell ?_ ?_ _) | go_size))

set_option maxHeartbeats 1000000 in
theorem rslot_6_1_false (l : Int) (w : World) (h0 : 0 ≤ l) (h3 : l ≤ 3) :
    Calls Try.prog 13 #[.int .i64 6, .int .i64 1, .agg #[.int .i64 l, .bool false]] w (Gives (.tuple #[.agg #[.int .i64 (l), .bool true], .int .i64 0]) w) := by
  have hs : slotsOf 6 = 2 := rfl
  have hv : (decide (0 ≤ l) && decide (l ≤ 3)) = true := by simp; omega
  go_enter Try.func13, Try.ntmps13
  go_wp2_with fail
  refine (ref25_Valid_calls _ _ _).mono ?_
  rintro e w' ⟨rfl, rfl⟩
  go_wp2_with fail
  refine (ref25_slots_calls _ _).mono ?_
  rintro e w' ⟨rfl, rfl⟩
  go_wp2_with fail
  refine (ref25_slots_calls _ _).mono ?_
  rintro e w' ⟨rfl, rfl⟩
  go_wp2_with fail
  refine bodyPost_ret (v := .tuple #[.agg #[.int .i64 (l), .bool true], .int .i64 0]) (by simp [results, Try.results13, go_sem, *]) rfl ⟨rfl, ?_⟩
  (repeat (first | (with_reducible exact Below.refl _ _) | (with_reducible refine Below.alloc ?_ ?_ _) | (with_reducible refine below_drewN ?_ _) | (with_reducible refine Below.setCell ?_ ?_ _) | go_size))

set_option maxHeartbeats 1000000 in
theorem rslot_7_neg (s l : Int) (c : Bool) (w : World) (h0 : 0 ≤ l) (h3 : l ≤ 3) (h : s < 0) :
    Calls Try.prog 13 #[.int .i64 7, .int .i64 s, .agg #[.int .i64 l, .bool c]] w (Gives (.tuple #[.agg #[.int .i64 0, .bool false], .int .i64 2]) w) := by
  have hs : slotsOf 7 = 2 := rfl
  have hv : (decide (0 ≤ l) && decide (l ≤ 3)) = true := by simp; omega
  go_enter Try.func13, Try.ntmps13
  go_wp2_with fail
  refine (ref25_Valid_calls _ _ _).mono ?_
  rintro e w' ⟨rfl, rfl⟩
  go_wp2_with fail
  refine (ref25_slots_calls _ _).mono ?_
  rintro e w' ⟨rfl, rfl⟩
  go_wp2_with fail
  refine bodyPost_ret (v := .tuple #[.agg #[.int .i64 0, .bool false], .int .i64 2]) (by simp [results, Try.results13, go_sem, *]) rfl ⟨rfl, ?_⟩
  go_grown

set_option maxHeartbeats 1000000 in
theorem rslot_7_big (s l : Int) (c : Bool) (w : World) (h0 : 0 ≤ l) (h3 : l ≤ 3) (h : 2 ≤ s) :
    Calls Try.prog 13 #[.int .i64 7, .int .i64 s, .agg #[.int .i64 l, .bool c]] w (Gives (.tuple #[.agg #[.int .i64 0, .bool false], .int .i64 2]) w) := by
  have hs : slotsOf 7 = 2 := rfl
  have hv : (decide (0 ≤ l) && decide (l ≤ 3)) = true := by simp; omega
  go_enter Try.func13, Try.ntmps13
  go_wp2_with fail
  refine (ref25_Valid_calls _ _ _).mono ?_
  rintro e w' ⟨rfl, rfl⟩
  go_wp2_with fail
  refine (ref25_slots_calls _ _).mono ?_
  rintro e w' ⟨rfl, rfl⟩
  go_wp2_with fail
  refine (ref25_slots_calls _ _).mono ?_
  rintro e w' ⟨rfl, rfl⟩
  go_wp2_with fail
  refine bodyPost_ret (v := .tuple #[.agg #[.int .i64 0, .bool false], .int .i64 2]) (by simp [results, Try.results13, go_sem, *]) rfl ⟨rfl, ?_⟩
  go_grown

set_option maxHeartbeats 1000000 in
theorem rslot_7_0_true (l : Int) (w : World) (h0 : 0 ≤ l) (h3 : l ≤ 3) :
    Calls Try.prog 13 #[.int .i64 7, .int .i64 0, .agg #[.int .i64 l, .bool true]] w (Gives (.tuple #[.agg #[.int .i64 (l), .bool true], .int .i64 0]) w) := by
  have hs : slotsOf 7 = 2 := rfl
  have hv : (decide (0 ≤ l) && decide (l ≤ 3)) = true := by simp; omega
  go_enter Try.func13, Try.ntmps13
  go_wp2_with fail
  refine (ref25_Valid_calls _ _ _).mono ?_
  rintro e w' ⟨rfl, rfl⟩
  go_wp2_with fail
  refine (ref25_slots_calls _ _).mono ?_
  rintro e w' ⟨rfl, rfl⟩
  go_wp2_with fail
  refine (ref25_slots_calls _ _).mono ?_
  rintro e w' ⟨rfl, rfl⟩
  go_wp2_with fail
  refine bodyPost_ret (v := .tuple #[.agg #[.int .i64 (l), .bool true], .int .i64 0]) (by simp [results, Try.results13, go_sem, *]) rfl ⟨rfl, ?_⟩
  (repeat (first | (with_reducible exact Below.refl _ _) | (with_reducible refine Below.alloc ?_ ?_ _) | (with_reducible refine below_drewN ?_ _) | (with_reducible refine Below.setCell ?_ ?_ _) | go_size))

set_option maxHeartbeats 1000000 in
theorem rslot_7_0_false (l : Int) (w : World) (h0 : 0 ≤ l) (h3 : l ≤ 3) :
    Calls Try.prog 13 #[.int .i64 7, .int .i64 0, .agg #[.int .i64 l, .bool false]] w (Gives (.tuple #[.agg #[.int .i64 (l), .bool false], .int .i64 0]) w) := by
  have hs : slotsOf 7 = 2 := rfl
  have hv : (decide (0 ≤ l) && decide (l ≤ 3)) = true := by simp; omega
  go_enter Try.func13, Try.ntmps13
  go_wp2_with fail
  refine (ref25_Valid_calls _ _ _).mono ?_
  rintro e w' ⟨rfl, rfl⟩
  go_wp2_with fail
  refine (ref25_slots_calls _ _).mono ?_
  rintro e w' ⟨rfl, rfl⟩
  go_wp2_with fail
  refine (ref25_slots_calls _ _).mono ?_
  rintro e w' ⟨rfl, rfl⟩
  go_wp2_with fail
  refine bodyPost_ret (v := .tuple #[.agg #[.int .i64 (l), .bool false], .int .i64 0]) (by simp [results, Try.results13, go_sem, *]) rfl ⟨rfl, ?_⟩
  (repeat (first | (with_reducible exact Below.refl _ _) | (with_reducible refine Below.alloc ?_ ?_ _) | (with_reducible refine below_drewN ?_ _) | (with_reducible refine Below.setCell ?_ ?_ _) | go_size))

set_option maxHeartbeats 1000000 in
theorem rslot_7_1_true (l : Int) (w : World) (h0 : 0 ≤ l) (h3 : l ≤ 3) :
    Calls Try.prog 13 #[.int .i64 7, .int .i64 1, .agg #[.int .i64 l, .bool true]] w (Gives (.tuple #[.agg #[.int .i64 (2 + l / 2), .bool true], .int .i64 0]) w) := by
  have hs : slotsOf 7 = 2 := rfl
  have hv : (decide (0 ≤ l) && decide (l ≤ 3)) = true := by simp; omega
  go_enter Try.func13, Try.ntmps13
  go_wp2_with fail
  refine (ref25_Valid_calls _ _ _).mono ?_
  rintro e w' ⟨rfl, rfl⟩
  go_wp2_with fail
  refine (ref25_slots_calls _ _).mono ?_
  rintro e w' ⟨rfl, rfl⟩
  go_wp2_with fail
  refine (ref25_slots_calls _ _).mono ?_
  rintro e w' ⟨rfl, rfl⟩
  go_wp2_with fail
  refine wp_region_steady (fun w' => ∃ n, w' = World.drewN _ n) 14 (by kernel_rfl) (by kernel_rfl) ⟨1, rfl⟩ ?_
  simp only [List.take_succ_cons, List.take_zero, List.drop_succ_cons, List.drop_zero]
  repeat (quiet_step ((go_at_call 23; exact Calls.quiet_of_same ((ref25_script_calls _ _ h0 h3).mono fun _ _ ⟨he, hw⟩ => ⟨he, hw.symm⟩))))
  refine wpQuiet_nil ?_
  intro _ hw'
  obtain ⟨nq, hw''⟩ := hw'
  subst hw''
  go_wp2_with fail
  refine bodyPost_ret (v := .tuple #[.agg #[.int .i64 (2 + l / 2), .bool true], .int .i64 0]) (by simp [results, Try.results13, go_sem, *]) rfl ⟨rfl, ?_⟩
  (repeat (first | (with_reducible exact Below.refl _ _) | (with_reducible refine Below.alloc ?_ ?_ _) | (with_reducible refine below_drewN ?_ _) | (with_reducible refine Below.setCell ?_ ?_ _) | go_size))

set_option maxHeartbeats 1000000 in
theorem rslot_7_1_false (l : Int) (w : World) (h0 : 0 ≤ l) (h3 : l ≤ 3) :
    Calls Try.prog 13 #[.int .i64 7, .int .i64 1, .agg #[.int .i64 l, .bool false]] w (Gives (.tuple #[.agg #[.int .i64 (2 + l / 2), .bool true], .int .i64 0]) w) := by
  have hs : slotsOf 7 = 2 := rfl
  have hv : (decide (0 ≤ l) && decide (l ≤ 3)) = true := by simp; omega
  go_enter Try.func13, Try.ntmps13
  go_wp2_with fail
  refine (ref25_Valid_calls _ _ _).mono ?_
  rintro e w' ⟨rfl, rfl⟩
  go_wp2_with fail
  refine (ref25_slots_calls _ _).mono ?_
  rintro e w' ⟨rfl, rfl⟩
  go_wp2_with fail
  refine (ref25_slots_calls _ _).mono ?_
  rintro e w' ⟨rfl, rfl⟩
  go_wp2_with fail
  refine wp_region_steady (fun w' => ∃ n, w' = World.drewN _ n) 14 (by kernel_rfl) (by kernel_rfl) ⟨1, rfl⟩ ?_
  simp only [List.take_succ_cons, List.take_zero, List.drop_succ_cons, List.drop_zero]
  repeat (quiet_step ((go_at_call 23; exact Calls.quiet_of_same ((ref25_script_calls _ _ h0 h3).mono fun _ _ ⟨he, hw⟩ => ⟨he, hw.symm⟩))))
  refine wpQuiet_nil ?_
  intro _ hw'
  obtain ⟨nq, hw''⟩ := hw'
  subst hw''
  go_wp2_with fail
  refine bodyPost_ret (v := .tuple #[.agg #[.int .i64 (2 + l / 2), .bool true], .int .i64 0]) (by simp [results, Try.results13, go_sem, *]) rfl ⟨rfl, ?_⟩
  (repeat (first | (with_reducible exact Below.refl _ _) | (with_reducible refine Below.alloc ?_ ?_ _) | (with_reducible refine below_drewN ?_ _) | (with_reducible refine Below.setCell ?_ ?_ _) | go_size))

set_option maxHeartbeats 1000000 in
theorem rslot_8_neg (s l : Int) (c : Bool) (w : World) (h0 : 0 ≤ l) (h3 : l ≤ 3) (h : s < 0) :
    Calls Try.prog 13 #[.int .i64 8, .int .i64 s, .agg #[.int .i64 l, .bool c]] w (Gives (.tuple #[.agg #[.int .i64 0, .bool false], .int .i64 2]) w) := by
  have hs : slotsOf 8 = 2 := rfl
  have hv : (decide (0 ≤ l) && decide (l ≤ 3)) = true := by simp; omega
  go_enter Try.func13, Try.ntmps13
  go_wp2_with fail
  refine (ref25_Valid_calls _ _ _).mono ?_
  rintro e w' ⟨rfl, rfl⟩
  go_wp2_with fail
  refine (ref25_slots_calls _ _).mono ?_
  rintro e w' ⟨rfl, rfl⟩
  go_wp2_with fail
  refine bodyPost_ret (v := .tuple #[.agg #[.int .i64 0, .bool false], .int .i64 2]) (by simp [results, Try.results13, go_sem, *]) rfl ⟨rfl, ?_⟩
  go_grown

set_option maxHeartbeats 1000000 in
theorem rslot_8_big (s l : Int) (c : Bool) (w : World) (h0 : 0 ≤ l) (h3 : l ≤ 3) (h : 2 ≤ s) :
    Calls Try.prog 13 #[.int .i64 8, .int .i64 s, .agg #[.int .i64 l, .bool c]] w (Gives (.tuple #[.agg #[.int .i64 0, .bool false], .int .i64 2]) w) := by
  have hs : slotsOf 8 = 2 := rfl
  have hv : (decide (0 ≤ l) && decide (l ≤ 3)) = true := by simp; omega
  go_enter Try.func13, Try.ntmps13
  go_wp2_with fail
  refine (ref25_Valid_calls _ _ _).mono ?_
  rintro e w' ⟨rfl, rfl⟩
  go_wp2_with fail
  refine (ref25_slots_calls _ _).mono ?_
  rintro e w' ⟨rfl, rfl⟩
  go_wp2_with fail
  refine (ref25_slots_calls _ _).mono ?_
  rintro e w' ⟨rfl, rfl⟩
  go_wp2_with fail
  refine bodyPost_ret (v := .tuple #[.agg #[.int .i64 0, .bool false], .int .i64 2]) (by simp [results, Try.results13, go_sem, *]) rfl ⟨rfl, ?_⟩
  go_grown

set_option maxHeartbeats 1000000 in
theorem rslot_8_0_true (l : Int) (w : World) (h0 : 0 ≤ l) (h3 : l ≤ 3) :
    Calls Try.prog 13 #[.int .i64 8, .int .i64 0, .agg #[.int .i64 l, .bool true]] w (Gives (.tuple #[.agg #[.int .i64 (l), .bool true], .int .i64 0]) w) := by
  have hs : slotsOf 8 = 2 := rfl
  have hv : (decide (0 ≤ l) && decide (l ≤ 3)) = true := by simp; omega
  go_enter Try.func13, Try.ntmps13
  go_wp2_with fail
  refine (ref25_Valid_calls _ _ _).mono ?_
  rintro e w' ⟨rfl, rfl⟩
  go_wp2_with fail
  refine (ref25_slots_calls _ _).mono ?_
  rintro e w' ⟨rfl, rfl⟩
  go_wp2_with fail
  refine (ref25_slots_calls _ _).mono ?_
  rintro e w' ⟨rfl, rfl⟩
  go_wp2_with fail
  refine bodyPost_ret (v := .tuple #[.agg #[.int .i64 (l), .bool true], .int .i64 0]) (by simp [results, Try.results13, go_sem, *]) rfl ⟨rfl, ?_⟩
  (repeat (first | (with_reducible exact Below.refl _ _) | (with_reducible refine Below.alloc ?_ ?_ _) | (with_reducible refine below_drewN ?_ _) | (with_reducible refine Below.setCell ?_ ?_ _) | go_size))

set_option maxHeartbeats 1000000 in
theorem rslot_8_0_false (l : Int) (w : World) (h0 : 0 ≤ l) (h3 : l ≤ 3) :
    Calls Try.prog 13 #[.int .i64 8, .int .i64 0, .agg #[.int .i64 l, .bool false]] w (Gives (.tuple #[.agg #[.int .i64 (l), .bool false], .int .i64 0]) w) := by
  have hs : slotsOf 8 = 2 := rfl
  have hv : (decide (0 ≤ l) && decide (l ≤ 3)) = true := by simp; omega
  go_enter Try.func13, Try.ntmps13
  go_wp2_with fail
  refine (ref25_Valid_calls _ _ _).mono ?_
  rintro e w' ⟨rfl, rfl⟩
  go_wp2_with fail
  refine (ref25_slots_calls _ _).mono ?_
  rintro e w' ⟨rfl, rfl⟩
  go_wp2_with fail
  refine (ref25_slots_calls _ _).mono ?_
  rintro e w' ⟨rfl, rfl⟩
  go_wp2_with fail
  refine bodyPost_ret (v := .tuple #[.agg #[.int .i64 (l), .bool false], .int .i64 0]) (by simp [results, Try.results13, go_sem, *]) rfl ⟨rfl, ?_⟩
  (repeat (first | (with_reducible exact Below.refl _ _) | (with_reducible refine Below.alloc ?_ ?_ _) | (with_reducible refine below_drewN ?_ _) | (with_reducible refine Below.setCell ?_ ?_ _) | go_size))

set_option maxHeartbeats 1000000 in
theorem rslot_8_1_true (l : Int) (w : World) (h0 : 0 ≤ l) (h3 : l ≤ 3) :
    Calls Try.prog 13 #[.int .i64 8, .int .i64 1, .agg #[.int .i64 l, .bool true]] w (Gives (.tuple #[.agg #[.int .i64 (2 + l / 2), .bool true], .int .i64 0]) w) := by
  have hs : slotsOf 8 = 2 := rfl
  have hv : (decide (0 ≤ l) && decide (l ≤ 3)) = true := by simp; omega
  go_enter Try.func13, Try.ntmps13
  go_wp2_with fail
  refine (ref25_Valid_calls _ _ _).mono ?_
  rintro e w' ⟨rfl, rfl⟩
  go_wp2_with fail
  refine (ref25_slots_calls _ _).mono ?_
  rintro e w' ⟨rfl, rfl⟩
  go_wp2_with fail
  refine (ref25_slots_calls _ _).mono ?_
  rintro e w' ⟨rfl, rfl⟩
  go_wp2_with fail
  refine wp_region_steady (fun w' => ∃ n, w' = World.drewN _ n) 14 (by kernel_rfl) (by kernel_rfl) ⟨1, rfl⟩ ?_
  simp only [List.take_succ_cons, List.take_zero, List.drop_succ_cons, List.drop_zero]
  repeat (quiet_step ((go_at_call 23; exact Calls.quiet_of_same ((ref25_script_calls _ _ h0 h3).mono fun _ _ ⟨he, hw⟩ => ⟨he, hw.symm⟩))))
  refine wpQuiet_nil ?_
  intro _ hw'
  obtain ⟨nq, hw''⟩ := hw'
  subst hw''
  go_wp2_with fail
  refine bodyPost_ret (v := .tuple #[.agg #[.int .i64 (2 + l / 2), .bool true], .int .i64 0]) (by simp [results, Try.results13, go_sem, *]) rfl ⟨rfl, ?_⟩
  (repeat (first | (with_reducible exact Below.refl _ _) | (with_reducible refine Below.alloc ?_ ?_ _) | (with_reducible refine below_drewN ?_ _) | (with_reducible refine Below.setCell ?_ ?_ _) | go_size))

set_option maxHeartbeats 1000000 in
theorem rslot_8_1_false (l : Int) (w : World) (h0 : 0 ≤ l) (h3 : l ≤ 3) :
    Calls Try.prog 13 #[.int .i64 8, .int .i64 1, .agg #[.int .i64 l, .bool false]] w (Gives (.tuple #[.agg #[.int .i64 (2 + l / 2), .bool false], .int .i64 0]) w) := by
  have hs : slotsOf 8 = 2 := rfl
  have hv : (decide (0 ≤ l) && decide (l ≤ 3)) = true := by simp; omega
  go_enter Try.func13, Try.ntmps13
  go_wp2_with fail
  refine (ref25_Valid_calls _ _ _).mono ?_
  rintro e w' ⟨rfl, rfl⟩
  go_wp2_with fail
  refine (ref25_slots_calls _ _).mono ?_
  rintro e w' ⟨rfl, rfl⟩
  go_wp2_with fail
  refine (ref25_slots_calls _ _).mono ?_
  rintro e w' ⟨rfl, rfl⟩
  go_wp2_with fail
  refine wp_region_steady (fun w' => ∃ n, w' = World.drewN _ n) 14 (by kernel_rfl) (by kernel_rfl) ⟨1, rfl⟩ ?_
  simp only [List.take_succ_cons, List.take_zero, List.drop_succ_cons, List.drop_zero]
  repeat (quiet_step ((go_at_call 23; exact Calls.quiet_of_same ((ref25_script_calls _ _ h0 h3).mono fun _ _ ⟨he, hw⟩ => ⟨he, hw.symm⟩))))
  refine wpQuiet_nil ?_
  intro _ hw'
  obtain ⟨nq, hw''⟩ := hw'
  subst hw''
  go_wp2_with fail
  refine bodyPost_ret (v := .tuple #[.agg #[.int .i64 (2 + l / 2), .bool false], .int .i64 0]) (by simp [results, Try.results13, go_sem, *]) rfl ⟨rfl, ?_⟩
  (repeat (first | (with_reducible exact Below.refl _ _) | (with_reducible refine Below.alloc ?_ ?_ _) | (with_reducible refine below_drewN ?_ _) | (with_reducible refine Below.setCell ?_ ?_ _) | go_size))

set_option maxHeartbeats 1000000 in
theorem rslot_9_neg (s l : Int) (c : Bool) (w : World) (h0 : 0 ≤ l) (h3 : l ≤ 3) (h : s < 0) :
    Calls Try.prog 13 #[.int .i64 9, .int .i64 s, .agg #[.int .i64 l, .bool c]] w (Gives (.tuple #[.agg #[.int .i64 0, .bool false], .int .i64 2]) w) := by
  have hs : slotsOf 9 = 3 := rfl
  have hv : (decide (0 ≤ l) && decide (l ≤ 3)) = true := by simp; omega
  go_enter Try.func13, Try.ntmps13
  go_wp2_with fail
  refine (ref25_Valid_calls _ _ _).mono ?_
  rintro e w' ⟨rfl, rfl⟩
  go_wp2_with fail
  refine (ref25_slots_calls _ _).mono ?_
  rintro e w' ⟨rfl, rfl⟩
  go_wp2_with fail
  refine bodyPost_ret (v := .tuple #[.agg #[.int .i64 0, .bool false], .int .i64 2]) (by simp [results, Try.results13, go_sem, *]) rfl ⟨rfl, ?_⟩
  go_grown

set_option maxHeartbeats 1000000 in
theorem rslot_9_big (s l : Int) (c : Bool) (w : World) (h0 : 0 ≤ l) (h3 : l ≤ 3) (h : 3 ≤ s) :
    Calls Try.prog 13 #[.int .i64 9, .int .i64 s, .agg #[.int .i64 l, .bool c]] w (Gives (.tuple #[.agg #[.int .i64 0, .bool false], .int .i64 2]) w) := by
  have hs : slotsOf 9 = 3 := rfl
  have hv : (decide (0 ≤ l) && decide (l ≤ 3)) = true := by simp; omega
  go_enter Try.func13, Try.ntmps13
  go_wp2_with fail
  refine (ref25_Valid_calls _ _ _).mono ?_
  rintro e w' ⟨rfl, rfl⟩
  go_wp2_with fail
  refine (ref25_slots_calls _ _).mono ?_
  rintro e w' ⟨rfl, rfl⟩
  go_wp2_with fail
  refine (ref25_slots_calls _ _).mono ?_
  rintro e w' ⟨rfl, rfl⟩
  go_wp2_with fail
  refine bodyPost_ret (v := .tuple #[.agg #[.int .i64 0, .bool false], .int .i64 2]) (by simp [results, Try.results13, go_sem, *]) rfl ⟨rfl, ?_⟩
  go_grown

set_option maxHeartbeats 1000000 in
theorem rslot_9_0_true (l : Int) (w : World) (h0 : 0 ≤ l) (h3 : l ≤ 3) :
    Calls Try.prog 13 #[.int .i64 9, .int .i64 0, .agg #[.int .i64 l, .bool true]] w (Gives (.tuple #[.agg #[.int .i64 (l), .bool true], .int .i64 0]) w) := by
  have hs : slotsOf 9 = 3 := rfl
  have hv : (decide (0 ≤ l) && decide (l ≤ 3)) = true := by simp; omega
  go_enter Try.func13, Try.ntmps13
  go_wp2_with fail
  refine (ref25_Valid_calls _ _ _).mono ?_
  rintro e w' ⟨rfl, rfl⟩
  go_wp2_with fail
  refine (ref25_slots_calls _ _).mono ?_
  rintro e w' ⟨rfl, rfl⟩
  go_wp2_with fail
  refine (ref25_slots_calls _ _).mono ?_
  rintro e w' ⟨rfl, rfl⟩
  go_wp2_with fail
  refine bodyPost_ret (v := .tuple #[.agg #[.int .i64 (l), .bool true], .int .i64 0]) (by simp [results, Try.results13, go_sem, *]) rfl ⟨rfl, ?_⟩
  (repeat (first | (with_reducible exact Below.refl _ _) | (with_reducible refine Below.alloc ?_ ?_ _) | (with_reducible refine below_drewN ?_ _) | (with_reducible refine Below.setCell ?_ ?_ _) | go_size))

set_option maxHeartbeats 1000000 in
theorem rslot_9_0_false (l : Int) (w : World) (h0 : 0 ≤ l) (h3 : l ≤ 3) :
    Calls Try.prog 13 #[.int .i64 9, .int .i64 0, .agg #[.int .i64 l, .bool false]] w (Gives (.tuple #[.agg #[.int .i64 (l), .bool false], .int .i64 0]) w) := by
  have hs : slotsOf 9 = 3 := rfl
  have hv : (decide (0 ≤ l) && decide (l ≤ 3)) = true := by simp; omega
  go_enter Try.func13, Try.ntmps13
  go_wp2_with fail
  refine (ref25_Valid_calls _ _ _).mono ?_
  rintro e w' ⟨rfl, rfl⟩
  go_wp2_with fail
  refine (ref25_slots_calls _ _).mono ?_
  rintro e w' ⟨rfl, rfl⟩
  go_wp2_with fail
  refine (ref25_slots_calls _ _).mono ?_
  rintro e w' ⟨rfl, rfl⟩
  go_wp2_with fail
  refine bodyPost_ret (v := .tuple #[.agg #[.int .i64 (l), .bool false], .int .i64 0]) (by simp [results, Try.results13, go_sem, *]) rfl ⟨rfl, ?_⟩
  (repeat (first | (with_reducible exact Below.refl _ _) | (with_reducible refine Below.alloc ?_ ?_ _) | (with_reducible refine below_drewN ?_ _) | (with_reducible refine Below.setCell ?_ ?_ _) | go_size))

set_option maxHeartbeats 1000000 in
theorem rslot_9_1_true (l : Int) (w : World) (h0 : 0 ≤ l) (h3 : l ≤ 3) :
    Calls Try.prog 13 #[.int .i64 9, .int .i64 1, .agg #[.int .i64 l, .bool true]] w (Gives (.tuple #[.agg #[.int .i64 (2 + l / 2), .bool true], .int .i64 0]) w) := by
  have hs : slotsOf 9 = 3 := rfl
  have hv : (decide (0 ≤ l) && decide (l ≤ 3)) = true := by simp; omega
  go_enter Try.func13, Try.ntmps13
  go_wp2_with fail
  refine (ref25_Valid_calls _ _ _).mono ?_
  rintro e w' ⟨rfl, rfl⟩
  go_wp2_with fail
  refine (ref25_slots_calls _ _).mono ?_
  rintro e w' ⟨rfl, rfl⟩
  go_wp2_with fail
  refine (ref25_slots_calls _ _).mono ?_
  rintro e w' ⟨rfl, rfl⟩
  go_wp2_with fail
  refine wp_region_steady (fun w' => ∃ n, w' = World.drewN _ n) 14 (by kernel_rfl) (by kernel_rfl) ⟨1, rfl⟩ ?_
  simp only [List.take_succ_cons, List.take_zero, List.drop_succ_cons, List.drop_zero]
  repeat (quiet_step ((go_at_call 23; exact Calls.quiet_of_same ((ref25_script_calls _ _ h0 h3).mono fun _ _ ⟨he, hw⟩ => ⟨he, hw.symm⟩))))
  refine wpQuiet_nil ?_
  intro _ hw'
  obtain ⟨nq, hw''⟩ := hw'
  subst hw''
  go_wp2_with fail
  refine bodyPost_ret (v := .tuple #[.agg #[.int .i64 (2 + l / 2), .bool true], .int .i64 0]) (by simp [results, Try.results13, go_sem, *]) rfl ⟨rfl, ?_⟩
  (repeat (first | (with_reducible exact Below.refl _ _) | (with_reducible refine Below.alloc ?_ ?_ _) | (with_reducible refine below_drewN ?_ _) | (with_reducible refine Below.setCell ?_ ?_ _) | go_size))

set_option maxHeartbeats 1000000 in
theorem rslot_9_1_false (l : Int) (w : World) (h0 : 0 ≤ l) (h3 : l ≤ 3) :
    Calls Try.prog 13 #[.int .i64 9, .int .i64 1, .agg #[.int .i64 l, .bool false]] w (Gives (.tuple #[.agg #[.int .i64 (2 + l / 2), .bool true], .int .i64 0]) w) := by
  have hs : slotsOf 9 = 3 := rfl
  have hv : (decide (0 ≤ l) && decide (l ≤ 3)) = true := by simp; omega
  go_enter Try.func13, Try.ntmps13
  go_wp2_with fail
  refine (ref25_Valid_calls _ _ _).mono ?_
  rintro e w' ⟨rfl, rfl⟩
  go_wp2_with fail
  refine (ref25_slots_calls _ _).mono ?_
  rintro e w' ⟨rfl, rfl⟩
  go_wp2_with fail
  refine (ref25_slots_calls _ _).mono ?_
  rintro e w' ⟨rfl, rfl⟩
  go_wp2_with fail
  refine wp_region_steady (fun w' => ∃ n, w' = World.drewN _ n) 14 (by kernel_rfl) (by kernel_rfl) ⟨1, rfl⟩ ?_
  simp only [List.take_succ_cons, List.take_zero, List.drop_succ_cons, List.drop_zero]
  repeat (quiet_step ((go_at_call 23; exact Calls.quiet_of_same ((ref25_script_calls _ _ h0 h3).mono fun _ _ ⟨he, hw⟩ => ⟨he, hw.symm⟩))))
  refine wpQuiet_nil ?_
  intro _ hw'
  obtain ⟨nq, hw''⟩ := hw'
  subst hw''
  go_wp2_with fail
  refine bodyPost_ret (v := .tuple #[.agg #[.int .i64 (2 + l / 2), .bool true], .int .i64 0]) (by simp [results, Try.results13, go_sem, *]) rfl ⟨rfl, ?_⟩
  (repeat (first | (with_reducible exact Below.refl _ _) | (with_reducible refine Below.alloc ?_ ?_ _) | (with_reducible refine below_drewN ?_ _) | (with_reducible refine Below.setCell ?_ ?_ _) | go_size))

set_option maxHeartbeats 1000000 in
theorem rslot_9_2_true (l : Int) (w : World) (h0 : 0 ≤ l) (h3 : l ≤ 3) :
    Calls Try.prog 13 #[.int .i64 9, .int .i64 2, .agg #[.int .i64 l, .bool true]] w (Gives (.tuple #[.agg #[.int .i64 (2 + l / 2), .bool true], .int .i64 0]) w) := by
  have hs : slotsOf 9 = 3 := rfl
  have hv : (decide (0 ≤ l) && decide (l ≤ 3)) = true := by simp; omega
  go_enter Try.func13, Try.ntmps13
  go_wp2_with fail
  refine (ref25_Valid_calls _ _ _).mono ?_
  rintro e w' ⟨rfl, rfl⟩
  go_wp2_with fail
  refine (ref25_slots_calls _ _).mono ?_
  rintro e w' ⟨rfl, rfl⟩
  go_wp2_with fail
  refine (ref25_slots_calls _ _).mono ?_
  rintro e w' ⟨rfl, rfl⟩
  go_wp2_with fail
  refine wp_region_steady (fun w' => ∃ n, w' = World.drewN _ n) 14 (by kernel_rfl) (by kernel_rfl) ⟨1, rfl⟩ ?_
  simp only [List.take_succ_cons, List.take_zero, List.drop_succ_cons, List.drop_zero]
  repeat (quiet_step ((go_at_call 23; exact Calls.quiet_of_same ((ref25_script_calls _ _ h0 h3).mono fun _ _ ⟨he, hw⟩ => ⟨he, hw.symm⟩))))
  refine wpQuiet_nil ?_
  intro _ hw'
  obtain ⟨nq, hw''⟩ := hw'
  subst hw''
  go_wp2_with fail
  refine bodyPost_ret (v := .tuple #[.agg #[.int .i64 (2 + l / 2), .bool true], .int .i64 0]) (by simp [results, Try.results13, go_sem, *]) rfl ⟨rfl, ?_⟩
  (repeat (first | (with_reducible exact Below.refl _ _) | (with_reducible refine Below.alloc ?_ ?_ _) | (with_reducible refine below_drewN ?_ _) | (with_reducible refine Below.setCell ?_ ?_ _) | go_size))

set_option maxHeartbeats 1000000 in
theorem rslot_9_2_false (l : Int) (w : World) (h0 : 0 ≤ l) (h3 : l ≤ 3) :
    Calls Try.prog 13 #[.int .i64 9, .int .i64 2, .agg #[.int .i64 l, .bool false]] w (Gives (.tuple #[.agg #[.int .i64 (2 + l / 2), .bool false], .int .i64 0]) w) := by
  have hs : slotsOf 9 = 3 := rfl
  have hv : (decide (0 ≤ l) && decide (l ≤ 3)) = true := by simp; omega
  go_enter Try.func13, Try.ntmps13
  go_wp2_with fail
  refine (ref25_Valid_calls _ _ _).mono ?_
  rintro e w' ⟨rfl, rfl⟩
  go_wp2_with fail
  refine (ref25_slots_calls _ _).mono ?_
  rintro e w' ⟨rfl, rfl⟩
  go_wp2_with fail
  refine (ref25_slots_calls _ _).mono ?_
  rintro e w' ⟨rfl, rfl⟩
  go_wp2_with fail
  refine wp_region_steady (fun w' => ∃ n, w' = World.drewN _ n) 14 (by kernel_rfl) (by kernel_rfl) ⟨1, rfl⟩ ?_
  simp only [List.take_succ_cons, List.take_zero, List.drop_succ_cons, List.drop_zero]
  repeat (quiet_step ((go_at_call 23; exact Calls.quiet_of_same ((ref25_script_calls _ _ h0 h3).mono fun _ _ ⟨he, hw⟩ => ⟨he, hw.symm⟩))))
  refine wpQuiet_nil ?_
  intro _ hw'
  obtain ⟨nq, hw''⟩ := hw'
  subst hw''
  go_wp2_with fail
  refine bodyPost_ret (v := .tuple #[.agg #[.int .i64 (2 + l / 2), .bool false], .int .i64 0]) (by simp [results, Try.results13, go_sem, *]) rfl ⟨rfl, ?_⟩
  (repeat (first | (with_reducible exact Below.refl _ _) | (with_reducible refine Below.alloc ?_ ?_ _) | (with_reducible refine below_drewN ?_ _) | (with_reducible refine Below.setCell ?_ ?_ _) | go_size))

set_option maxHeartbeats 1000000 in
theorem rslot_10_neg (s l : Int) (c : Bool) (w : World) (h0 : 0 ≤ l) (h3 : l ≤ 3) (h : s < 0) :
    Calls Try.prog 13 #[.int .i64 10, .int .i64 s, .agg #[.int .i64 l, .bool c]] w (Gives (.tuple #[.agg #[.int .i64 0, .bool false], .int .i64 2]) w) := by
  have hs : slotsOf 10 = 1 := rfl
  have hv : (decide (0 ≤ l) && decide (l ≤ 3)) = true := by simp; omega
  go_enter Try.func13, Try.ntmps13
  go_wp2_with fail
  refine (ref25_Valid_calls _ _ _).mono ?_
  rintro e w' ⟨rfl, rfl⟩
  go_wp2_with fail
  refine (ref25_slots_calls _ _).mono ?_
  rintro e w' ⟨rfl, rfl⟩
  go_wp2_with fail
  refine bodyPost_ret (v := .tuple #[.agg #[.int .i64 0, .bool false], .int .i64 2]) (by simp [results, Try.results13, go_sem, *]) rfl ⟨rfl, ?_⟩
  go_grown

set_option maxHeartbeats 1000000 in
theorem rslot_10_big (s l : Int) (c : Bool) (w : World) (h0 : 0 ≤ l) (h3 : l ≤ 3) (h : 1 ≤ s) :
    Calls Try.prog 13 #[.int .i64 10, .int .i64 s, .agg #[.int .i64 l, .bool c]] w (Gives (.tuple #[.agg #[.int .i64 0, .bool false], .int .i64 2]) w) := by
  have hs : slotsOf 10 = 1 := rfl
  have hv : (decide (0 ≤ l) && decide (l ≤ 3)) = true := by simp; omega
  go_enter Try.func13, Try.ntmps13
  go_wp2_with fail
  refine (ref25_Valid_calls _ _ _).mono ?_
  rintro e w' ⟨rfl, rfl⟩
  go_wp2_with fail
  refine (ref25_slots_calls _ _).mono ?_
  rintro e w' ⟨rfl, rfl⟩
  go_wp2_with fail
  refine (ref25_slots_calls _ _).mono ?_
  rintro e w' ⟨rfl, rfl⟩
  go_wp2_with fail
  refine bodyPost_ret (v := .tuple #[.agg #[.int .i64 0, .bool false], .int .i64 2]) (by simp [results, Try.results13, go_sem, *]) rfl ⟨rfl, ?_⟩
  go_grown

set_option maxHeartbeats 1000000 in
theorem rslot_10_0_true (l : Int) (w : World) (h0 : 0 ≤ l) (h3 : l ≤ 3) :
    Calls Try.prog 13 #[.int .i64 10, .int .i64 0, .agg #[.int .i64 l, .bool true]] w (Gives (.tuple #[.agg #[.int .i64 (l), .bool true], .int .i64 0]) w) := by
  have hs : slotsOf 10 = 1 := rfl
  have hv : (decide (0 ≤ l) && decide (l ≤ 3)) = true := by simp; omega
  go_enter Try.func13, Try.ntmps13
  go_wp2_with fail
  refine (ref25_Valid_calls _ _ _).mono ?_
  rintro e w' ⟨rfl, rfl⟩
  go_wp2_with fail
  refine (ref25_slots_calls _ _).mono ?_
  rintro e w' ⟨rfl, rfl⟩
  go_wp2_with fail
  refine (ref25_slots_calls _ _).mono ?_
  rintro e w' ⟨rfl, rfl⟩
  go_wp2_with fail
  refine bodyPost_ret (v := .tuple #[.agg #[.int .i64 (l), .bool true], .int .i64 0]) (by simp [results, Try.results13, go_sem, *]) rfl ⟨rfl, ?_⟩
  (repeat (first | (with_reducible exact Below.refl _ _) | (with_reducible refine Below.alloc ?_ ?_ _) | (with_reducible refine below_drewN ?_ _) | (with_reducible refine Below.setCell ?_ ?_ _) | go_size))

set_option maxHeartbeats 1000000 in
theorem rslot_10_0_false (l : Int) (w : World) (h0 : 0 ≤ l) (h3 : l ≤ 3) :
    Calls Try.prog 13 #[.int .i64 10, .int .i64 0, .agg #[.int .i64 l, .bool false]] w (Gives (.tuple #[.agg #[.int .i64 (l), .bool true], .int .i64 0]) w) := by
  have hs : slotsOf 10 = 1 := rfl
  have hv : (decide (0 ≤ l) && decide (l ≤ 3)) = true := by simp; omega
  go_enter Try.func13, Try.ntmps13
  go_wp2_with fail
  refine (ref25_Valid_calls _ _ _).mono ?_
  rintro e w' ⟨rfl, rfl⟩
  go_wp2_with fail
  refine (ref25_slots_calls _ _).mono ?_
  rintro e w' ⟨rfl, rfl⟩
  go_wp2_with fail
  refine (ref25_slots_calls _ _).mono ?_
  rintro e w' ⟨rfl, rfl⟩
  go_wp2_with fail
  refine bodyPost_ret (v := .tuple #[.agg #[.int .i64 (l), .bool true], .int .i64 0]) (by simp [results, Try.results13, go_sem, *]) rfl ⟨rfl, ?_⟩
  (repeat (first | (with_reducible exact Below.refl _ _) | (with_reducible refine Below.alloc ?_ ?_ _) | (with_reducible refine below_drewN ?_ _) | (with_reducible refine Below.setCell ?_ ?_ _) | go_size))

set_option maxHeartbeats 1000000 in
theorem rslot_11_neg (s l : Int) (c : Bool) (w : World) (h0 : 0 ≤ l) (h3 : l ≤ 3) (h : s < 0) :
    Calls Try.prog 13 #[.int .i64 11, .int .i64 s, .agg #[.int .i64 l, .bool c]] w (Gives (.tuple #[.agg #[.int .i64 0, .bool false], .int .i64 2]) w) := by
  have hs : slotsOf 11 = 1 := rfl
  have hv : (decide (0 ≤ l) && decide (l ≤ 3)) = true := by simp; omega
  go_enter Try.func13, Try.ntmps13
  go_wp2_with fail
  refine (ref25_Valid_calls _ _ _).mono ?_
  rintro e w' ⟨rfl, rfl⟩
  go_wp2_with fail
  refine (ref25_slots_calls _ _).mono ?_
  rintro e w' ⟨rfl, rfl⟩
  go_wp2_with fail
  refine bodyPost_ret (v := .tuple #[.agg #[.int .i64 0, .bool false], .int .i64 2]) (by simp [results, Try.results13, go_sem, *]) rfl ⟨rfl, ?_⟩
  go_grown

set_option maxHeartbeats 1000000 in
theorem rslot_11_big (s l : Int) (c : Bool) (w : World) (h0 : 0 ≤ l) (h3 : l ≤ 3) (h : 1 ≤ s) :
    Calls Try.prog 13 #[.int .i64 11, .int .i64 s, .agg #[.int .i64 l, .bool c]] w (Gives (.tuple #[.agg #[.int .i64 0, .bool false], .int .i64 2]) w) := by
  have hs : slotsOf 11 = 1 := rfl
  have hv : (decide (0 ≤ l) && decide (l ≤ 3)) = true := by simp; omega
  go_enter Try.func13, Try.ntmps13
  go_wp2_with fail
  refine (ref25_Valid_calls _ _ _).mono ?_
  rintro e w' ⟨rfl, rfl⟩
  go_wp2_with fail
  refine (ref25_slots_calls _ _).mono ?_
  rintro e w' ⟨rfl, rfl⟩
  go_wp2_with fail
  refine (ref25_slots_calls _ _).mono ?_
  rintro e w' ⟨rfl, rfl⟩
  go_wp2_with fail
  refine bodyPost_ret (v := .tuple #[.agg #[.int .i64 0, .bool false], .int .i64 2]) (by simp [results, Try.results13, go_sem, *]) rfl ⟨rfl, ?_⟩
  go_grown

set_option maxHeartbeats 1000000 in
theorem rslot_11_0_true (l : Int) (w : World) (h0 : 0 ≤ l) (h3 : l ≤ 3) :
    Calls Try.prog 13 #[.int .i64 11, .int .i64 0, .agg #[.int .i64 l, .bool true]] w (Gives (.tuple #[.agg #[.int .i64 (l), .bool true], .int .i64 0]) w) := by
  have hs : slotsOf 11 = 1 := rfl
  have hv : (decide (0 ≤ l) && decide (l ≤ 3)) = true := by simp; omega
  go_enter Try.func13, Try.ntmps13
  go_wp2_with fail
  refine (ref25_Valid_calls _ _ _).mono ?_
  rintro e w' ⟨rfl, rfl⟩
  go_wp2_with fail
  refine (ref25_slots_calls _ _).mono ?_
  rintro e w' ⟨rfl, rfl⟩
  go_wp2_with fail
  refine (ref25_slots_calls _ _).mono ?_
  rintro e w' ⟨rfl, rfl⟩
  go_wp2_with fail
  refine bodyPost_ret (v := .tuple #[.agg #[.int .i64 (l), .bool true], .int .i64 0]) (by simp [results, Try.results13, go_sem, *]) rfl ⟨rfl, ?_⟩
  (repeat (first | (with_reducible exact Below.refl _ _) | (with_reducible refine Below.alloc ?_ ?_ _) | (with_reducible refine below_drewN ?_ _) | (with_reducible refine Below.setCell ?_ ?_ _) | go_size))

set_option maxHeartbeats 1000000 in
theorem rslot_11_0_false (l : Int) (w : World) (h0 : 0 ≤ l) (h3 : l ≤ 3) :
    Calls Try.prog 13 #[.int .i64 11, .int .i64 0, .agg #[.int .i64 l, .bool false]] w (Gives (.tuple #[.agg #[.int .i64 (l), .bool false], .int .i64 0]) w) := by
  have hs : slotsOf 11 = 1 := rfl
  have hv : (decide (0 ≤ l) && decide (l ≤ 3)) = true := by simp; omega
  go_enter Try.func13, Try.ntmps13
  go_wp2_with fail
  refine (ref25_Valid_calls _ _ _).mono ?_
  rintro e w' ⟨rfl, rfl⟩
  go_wp2_with fail
  refine (ref25_slots_calls _ _).mono ?_
  rintro e w' ⟨rfl, rfl⟩
  go_wp2_with fail
  refine (ref25_slots_calls _ _).mono ?_
  rintro e w' ⟨rfl, rfl⟩
  go_wp2_with fail
  refine bodyPost_ret (v := .tuple #[.agg #[.int .i64 (l), .bool false], .int .i64 0]) (by simp [results, Try.results13, go_sem, *]) rfl ⟨rfl, ?_⟩
  (repeat (first | (with_reducible exact Below.refl _ _) | (with_reducible refine Below.alloc ?_ ?_ _) | (with_reducible refine below_drewN ?_ _) | (with_reducible refine Below.setCell ?_ ?_ _) | go_size))

set_option maxHeartbeats 1000000 in
theorem rslot_12_neg (s l : Int) (c : Bool) (w : World) (h0 : 0 ≤ l) (h3 : l ≤ 3) (h : s < 0) :
    Calls Try.prog 13 #[.int .i64 12, .int .i64 s, .agg #[.int .i64 l, .bool c]] w (Gives (.tuple #[.agg #[.int .i64 0, .bool false], .int .i64 2]) w) := by
  have hs : slotsOf 12 = 256 := rfl
  have hv : (decide (0 ≤ l) && decide (l ≤ 3)) = true := by simp; omega
  go_enter Try.func13, Try.ntmps13
  go_wp2_with fail
  refine (ref25_Valid_calls _ _ _).mono ?_
  rintro e w' ⟨rfl, rfl⟩
  go_wp2_with fail
  refine (ref25_slots_calls _ _).mono ?_
  rintro e w' ⟨rfl, rfl⟩
  go_wp2_with fail
  refine bodyPost_ret (v := .tuple #[.agg #[.int .i64 0, .bool false], .int .i64 2]) (by simp [results, Try.results13, go_sem, *]) rfl ⟨rfl, ?_⟩
  go_grown

set_option maxHeartbeats 1000000 in
theorem rslot_12_big (s l : Int) (c : Bool) (w : World) (h0 : 0 ≤ l) (h3 : l ≤ 3) (h : 256 ≤ s) :
    Calls Try.prog 13 #[.int .i64 12, .int .i64 s, .agg #[.int .i64 l, .bool c]] w (Gives (.tuple #[.agg #[.int .i64 0, .bool false], .int .i64 2]) w) := by
  have hs : slotsOf 12 = 256 := rfl
  have hv : (decide (0 ≤ l) && decide (l ≤ 3)) = true := by simp; omega
  go_enter Try.func13, Try.ntmps13
  go_wp2_with fail
  refine (ref25_Valid_calls _ _ _).mono ?_
  rintro e w' ⟨rfl, rfl⟩
  go_wp2_with fail
  refine (ref25_slots_calls _ _).mono ?_
  rintro e w' ⟨rfl, rfl⟩
  go_wp2_with fail
  refine (ref25_slots_calls _ _).mono ?_
  rintro e w' ⟨rfl, rfl⟩
  go_wp2_with fail
  refine bodyPost_ret (v := .tuple #[.agg #[.int .i64 0, .bool false], .int .i64 2]) (by simp [results, Try.results13, go_sem, *]) rfl ⟨rfl, ?_⟩
  go_grown

set_option maxHeartbeats 1000000 in
theorem rslot_12_0_true (l : Int) (s : Int) (w : World) (h0 : 0 ≤ l) (h3 : l ≤ 3) (hs0 : 0 ≤ s) (hs1 : s < 256) :
    Calls Try.prog 13 #[.int .i64 12, .int .i64 s, .agg #[.int .i64 l, .bool true]] w (Gives (.tuple #[.agg #[.int .i64 (max l 1), .bool true], .int .i64 0]) w) := by
  have hs : slotsOf 12 = 256 := rfl
  have hv : (decide (0 ≤ l) && decide (l ≤ 3)) = true := by simp; omega
  go_enter Try.func13, Try.ntmps13
  go_wp2_with fail
  refine (ref25_Valid_calls _ _ _).mono ?_
  rintro e w' ⟨rfl, rfl⟩
  go_wp2_with fail
  refine (ref25_slots_calls _ _).mono ?_
  rintro e w' ⟨rfl, rfl⟩
  go_wp2_with fail
  refine (ref25_slots_calls _ _).mono ?_
  rintro e w' ⟨rfl, rfl⟩
  go_wp2_with fail
  all_goals (refine bodyPost_ret (v := .tuple #[.agg #[.int .i64 (max l 1), .bool true], .int .i64 0]) (by simp [results, Try.results13, go_sem, *]; try omega) rfl ⟨rfl, ?_⟩; go_grown)

set_option maxHeartbeats 1000000 in
theorem rslot_12_0_false (l : Int) (s : Int) (w : World) (h0 : 0 ≤ l) (h3 : l ≤ 3) (hs0 : 0 ≤ s) (hs1 : s < 256) :
    Calls Try.prog 13 #[.int .i64 12, .int .i64 s, .agg #[.int .i64 l, .bool false]] w (Gives (.tuple #[.agg #[.int .i64 (max l 1), .bool false], .int .i64 0]) w) := by
  have hs : slotsOf 12 = 256 := rfl
  have hv : (decide (0 ≤ l) && decide (l ≤ 3)) = true := by simp; omega
  go_enter Try.func13, Try.ntmps13
  go_wp2_with fail
  refine (ref25_Valid_calls _ _ _).mono ?_
  rintro e w' ⟨rfl, rfl⟩
  go_wp2_with fail
  refine (ref25_slots_calls _ _).mono ?_
  rintro e w' ⟨rfl, rfl⟩
  go_wp2_with fail
  refine (ref25_slots_calls _ _).mono ?_
  rintro e w' ⟨rfl, rfl⟩
  go_wp2_with fail
  all_goals (refine bodyPost_ret (v := .tuple #[.agg #[.int .i64 (max l 1), .bool false], .int .i64 0]) (by simp [results, Try.results13, go_sem, *]; try omega) rfl ⟨rfl, ?_⟩; go_grown)

end Go.Proofs.Ytillohdeljlchaa
