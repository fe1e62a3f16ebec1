/- style.Slot, where it has no slot. -/
import Derived.Test.YtillohdeljlchaaSty
import Derived.Test.YtillohdeljlchaaReg
import Derived.Test.YtillohdeljlchaaSlot
namespace Go.Proofs.Ytillohdeljlchaa
open Go.RowKit

set_option maxHeartbeats 1000000 in
theorem slot_err_lo (k s l : Int) (c : Bool) (w : World) (h : l < 0) :
    Calls Try.prog 11 #[.int .i64 k, .int .i64 s, .agg #[.int .i64 l, .bool c]] w (Gives (.tuple #[.agg #[.int .i64 0, .bool false], .int .i64 1]) w) := by
  have hv : (decide (0 ≤ l) && decide (l ≤ 3)) = false := by simp; omega
  go_enter Try.func11, Try.ntmps11
  go_wp2_with fail
  refine (style_Valid_calls _ _ _).mono ?_
  rintro e w' ⟨rfl, rfl⟩
  go_wp2_with fail
  refine bodyPost_ret (v := .tuple #[.agg #[.int .i64 0, .bool false], .int .i64 1]) (by simp [results, Try.results11, go_sem, *]) rfl ⟨rfl, ?_⟩
  go_grown

set_option maxHeartbeats 1000000 in
theorem slot_err_hi (k s l : Int) (c : Bool) (w : World) (h : 3 < l) :
    Calls Try.prog 11 #[.int .i64 k, .int .i64 s, .agg #[.int .i64 l, .bool c]] w (Gives (.tuple #[.agg #[.int .i64 0, .bool false], .int .i64 1]) w) := by
  have hv : (decide (0 ≤ l) && decide (l ≤ 3)) = false := by simp; omega
  go_enter Try.func11, Try.ntmps11
  go_wp2_with fail
  refine (style_Valid_calls _ _ _).mono ?_
  rintro e w' ⟨rfl, rfl⟩
  go_wp2_with fail
  refine bodyPost_ret (v := .tuple #[.agg #[.int .i64 0, .bool false], .int .i64 1]) (by simp [results, Try.results11, go_sem, *]) rfl ⟨rfl, ?_⟩
  go_grown

set_option maxHeartbeats 1000000 in
theorem slot_err_klo (k s l : Int) (c : Bool) (w : World) (h0 : 0 ≤ l) (h3 : l ≤ 3) (h : k < 5) :
    Calls Try.prog 11 #[.int .i64 k, .int .i64 s, .agg #[.int .i64 l, .bool c]] w (Gives (.tuple #[.agg #[.int .i64 0, .bool false], .int .i64 1]) w) := by
  have hv : (decide (0 ≤ l) && decide (l ≤ 3)) = true := by simp; omega
  go_enter Try.func11, Try.ntmps11
  go_wp2_with fail
  refine (style_Valid_calls _ _ _).mono ?_
  rintro e w' ⟨rfl, rfl⟩
  go_wp2_with fail
  refine bodyPost_ret (v := .tuple #[.agg #[.int .i64 0, .bool false], .int .i64 1]) (by simp [results, Try.results11, go_sem, *]) rfl ⟨rfl, ?_⟩
  go_grown

set_option maxHeartbeats 1000000 in
theorem slot_err_khi (k s l : Int) (c : Bool) (w : World) (h0 : 0 ≤ l) (h3 : l ≤ 3) (h : 12 < k) :
    Calls Try.prog 11 #[.int .i64 k, .int .i64 s, .agg #[.int .i64 l, .bool c]] w (Gives (.tuple #[.agg #[.int .i64 0, .bool false], .int .i64 1]) w) := by
  have hv : (decide (0 ≤ l) && decide (l ≤ 3)) = true := by simp; omega
  go_enter Try.func11, Try.ntmps11
  go_wp2_with fail
  refine (style_Valid_calls _ _ _).mono ?_
  rintro e w' ⟨rfl, rfl⟩
  go_wp2_with fail
  refine bodyPost_ret (v := .tuple #[.agg #[.int .i64 0, .bool false], .int .i64 1]) (by simp [results, Try.results11, go_sem, *]) rfl ⟨rfl, ?_⟩
  go_grown

set_option maxHeartbeats 1000000 in
theorem slot_5_neg (s l : Int) (c : Bool) (w : World) (h0 : 0 ≤ l) (h3 : l ≤ 3) (h : s < 0) :
    Calls Try.prog 11 #[.int .i64 5, .int .i64 s, .agg #[.int .i64 l, .bool c]] w (Gives (.tuple #[.agg #[.int .i64 0, .bool false], .int .i64 2]) w) := by
  have hv : (decide (0 ≤ l) && decide (l ≤ 3)) = true := by simp; omega
  go_enter Try.func11, Try.ntmps11
  go_wp2_with fail
  refine (style_Valid_calls _ _ _).mono ?_
  rintro e w' ⟨rfl, rfl⟩
  go_wp2_with fail
  refine (style_rules_calls_5 _).mono ?_
  rintro e w1 ⟨rfl, hb, _, _, _, _⟩
  simp only [World.size_alloc] at hb
  have d2 := hb.cell (p := ⟨w.heap.size + 1, 0, none⟩) (by simp)
  have d3 := hb.cell (p := ⟨w.heap.size + 1, 1, none⟩) (by simp)
  have f2 := hb.frozen (p := ⟨w.heap.size + 1, 0, none⟩) (by simp)
  have f3 := hb.frozen (p := ⟨w.heap.size + 1, 1, none⟩) (by simp)
  simp [go_sem] at d2 d3 f2 f3
  have hbb : Below w.heap.size w w1 := ((((Below.refl _ _).alloc (Nat.le_refl _) _).alloc (by go_size) _).alloc (by go_size) _).trans (hb.mono (by go_size))
  have i5 := rules_index_5
  go_wp2_with fail
  refine bodyPost_ret (v := .tuple #[.agg #[.int .i64 0, .bool false], .int .i64 2]) (by simp [results, Try.results11, go_sem, *]) rfl ⟨rfl, ?_⟩
  refine Below.setCell (Below.setCell hbb ?_ _) ?_ _ <;> go_size

set_option maxHeartbeats 1000000 in
theorem slot_5_big (s l : Int) (c : Bool) (w : World) (h0 : 0 ≤ l) (h3 : l ≤ 3) (h : 2 ≤ s) :
    Calls Try.prog 11 #[.int .i64 5, .int .i64 s, .agg #[.int .i64 l, .bool c]] w (Gives (.tuple #[.agg #[.int .i64 0, .bool false], .int .i64 2]) w) := by
  have hv : (decide (0 ≤ l) && decide (l ≤ 3)) = true := by simp; omega
  go_enter Try.func11, Try.ntmps11
  go_wp2_with fail
  refine (style_Valid_calls _ _ _).mono ?_
  rintro e w' ⟨rfl, rfl⟩
  go_wp2_with fail
  refine (style_rules_calls_5 _).mono ?_
  rintro e w1 ⟨rfl, hb, _, _, _, _⟩
  simp only [World.size_alloc] at hb
  have d2 := hb.cell (p := ⟨w.heap.size + 1, 0, none⟩) (by simp)
  have d3 := hb.cell (p := ⟨w.heap.size + 1, 1, none⟩) (by simp)
  have f2 := hb.frozen (p := ⟨w.heap.size + 1, 0, none⟩) (by simp)
  have f3 := hb.frozen (p := ⟨w.heap.size + 1, 1, none⟩) (by simp)
  simp [go_sem] at d2 d3 f2 f3
  have hbb : Below w.heap.size w w1 := ((((Below.refl _ _).alloc (Nat.le_refl _) _).alloc (by go_size) _).alloc (by go_size) _).trans (hb.mono (by go_size))
  have i5 := rules_index_5
  go_wp2_with fail
  refine bodyPost_ret (v := .tuple #[.agg #[.int .i64 0, .bool false], .int .i64 2]) (by simp [results, Try.results11, go_sem, *]) rfl ⟨rfl, ?_⟩
  refine Below.setCell (Below.setCell hbb ?_ _) ?_ _ <;> go_size

set_option maxHeartbeats 1000000 in
theorem slot_6_neg (s l : Int) (c : Bool) (w : World) (h0 : 0 ≤ l) (h3 : l ≤ 3) (h : s < 0) :
    Calls Try.prog 11 #[.int .i64 6, .int .i64 s, .agg #[.int .i64 l, .bool c]] w (Gives (.tuple #[.agg #[.int .i64 0, .bool false], .int .i64 2]) w) := by
  have hv : (decide (0 ≤ l) && decide (l ≤ 3)) = true := by simp; omega
  go_enter Try.func11, Try.ntmps11
  go_wp2_with fail
  refine (style_Valid_calls _ _ _).mono ?_
  rintro e w' ⟨rfl, rfl⟩
  go_wp2_with fail
  refine (style_rules_calls_6 _).mono ?_
  rintro e w1 ⟨rfl, hb, _, _, _, _⟩
  simp only [World.size_alloc] at hb
  have d2 := hb.cell (p := ⟨w.heap.size + 1, 0, none⟩) (by simp)
  have d3 := hb.cell (p := ⟨w.heap.size + 1, 1, none⟩) (by simp)
  have f2 := hb.frozen (p := ⟨w.heap.size + 1, 0, none⟩) (by simp)
  have f3 := hb.frozen (p := ⟨w.heap.size + 1, 1, none⟩) (by simp)
  simp [go_sem] at d2 d3 f2 f3
  have hbb : Below w.heap.size w w1 := ((((Below.refl _ _).alloc (Nat.le_refl _) _).alloc (by go_size) _).alloc (by go_size) _).trans (hb.mono (by go_size))
  have i5 := rules_index_6
  go_wp2_with fail
  refine bodyPost_ret (v := .tuple #[.agg #[.int .i64 0, .bool false], .int .i64 2]) (by simp [results, Try.results11, go_sem, *]) rfl ⟨rfl, ?_⟩
  refine Below.setCell (Below.setCell hbb ?_ _) ?_ _ <;> go_size

set_option maxHeartbeats 1000000 in
theorem slot_6_big (s l : Int) (c : Bool) (w : World) (h0 : 0 ≤ l) (h3 : l ≤ 3) (h : 2 ≤ s) :
    Calls Try.prog 11 #[.int .i64 6, .int .i64 s, .agg #[.int .i64 l, .bool c]] w (Gives (.tuple #[.agg #[.int .i64 0, .bool false], .int .i64 2]) w) := by
  have hv : (decide (0 ≤ l) && decide (l ≤ 3)) = true := by simp; omega
  go_enter Try.func11, Try.ntmps11
  go_wp2_with fail
  refine (style_Valid_calls _ _ _).mono ?_
  rintro e w' ⟨rfl, rfl⟩
  go_wp2_with fail
  refine (style_rules_calls_6 _).mono ?_
  rintro e w1 ⟨rfl, hb, _, _, _, _⟩
  simp only [World.size_alloc] at hb
  have d2 := hb.cell (p := ⟨w.heap.size + 1, 0, none⟩) (by simp)
  have d3 := hb.cell (p := ⟨w.heap.size + 1, 1, none⟩) (by simp)
  have f2 := hb.frozen (p := ⟨w.heap.size + 1, 0, none⟩) (by simp)
  have f3 := hb.frozen (p := ⟨w.heap.size + 1, 1, none⟩) (by simp)
  simp [go_sem] at d2 d3 f2 f3
  have hbb : Below w.heap.size w w1 := ((((Below.refl _ _).alloc (Nat.le_refl _) _).alloc (by go_size) _).alloc (by go_size) _).trans (hb.mono (by go_size))
  have i5 := rules_index_6
  go_wp2_with fail
  refine bodyPost_ret (v := .tuple #[.agg #[.int .i64 0, .bool false], .int .i64 2]) (by simp [results, Try.results11, go_sem, *]) rfl ⟨rfl, ?_⟩
  refine Below.setCell (Below.setCell hbb ?_ _) ?_ _ <;> go_size

set_option maxHeartbeats 1000000 in
theorem slot_7_neg (s l : Int) (c : Bool) (w : World) (h0 : 0 ≤ l) (h3 : l ≤ 3) (h : s < 0) :
    Calls Try.prog 11 #[.int .i64 7, .int .i64 s, .agg #[.int .i64 l, .bool c]] w (Gives (.tuple #[.agg #[.int .i64 0, .bool false], .int .i64 2]) w) := by
  have hv : (decide (0 ≤ l) && decide (l ≤ 3)) = true := by simp; omega
  go_enter Try.func11, Try.ntmps11
  go_wp2_with fail
  refine (style_Valid_calls _ _ _).mono ?_
  rintro e w' ⟨rfl, rfl⟩
  go_wp2_with fail
  refine (style_rules_calls_7 _).mono ?_
  rintro e w1 ⟨rfl, hb, _, _, _, _⟩
  simp only [World.size_alloc] at hb
  have d2 := hb.cell (p := ⟨w.heap.size + 1, 0, none⟩) (by simp)
  have d3 := hb.cell (p := ⟨w.heap.size + 1, 1, none⟩) (by simp)
  have f2 := hb.frozen (p := ⟨w.heap.size + 1, 0, none⟩) (by simp)
  have f3 := hb.frozen (p := ⟨w.heap.size + 1, 1, none⟩) (by simp)
  simp [go_sem] at d2 d3 f2 f3
  have hbb : Below w.heap.size w w1 := ((((Below.refl _ _).alloc (Nat.le_refl _) _).alloc (by go_size) _).alloc (by go_size) _).trans (hb.mono (by go_size))
  have i5 := rules_index_7
  go_wp2_with fail
  refine bodyPost_ret (v := .tuple #[.agg #[.int .i64 0, .bool false], .int .i64 2]) (by simp [results, Try.results11, go_sem, *]) rfl ⟨rfl, ?_⟩
  refine Below.setCell (Below.setCell hbb ?_ _) ?_ _ <;> go_size

set_option maxHeartbeats 1000000 in
theorem slot_7_big (s l : Int) (c : Bool) (w : World) (h0 : 0 ≤ l) (h3 : l ≤ 3) (h : 2 ≤ s) :
    Calls Try.prog 11 #[.int .i64 7, .int .i64 s, .agg #[.int .i64 l, .bool c]] w (Gives (.tuple #[.agg #[.int .i64 0, .bool false], .int .i64 2]) w) := by
  have hv : (decide (0 ≤ l) && decide (l ≤ 3)) = true := by simp; omega
  go_enter Try.func11, Try.ntmps11
  go_wp2_with fail
  refine (style_Valid_calls _ _ _).mono ?_
  rintro e w' ⟨rfl, rfl⟩
  go_wp2_with fail
  refine (style_rules_calls_7 _).mono ?_
  rintro e w1 ⟨rfl, hb, _, _, _, _⟩
  simp only [World.size_alloc] at hb
  have d2 := hb.cell (p := ⟨w.heap.size + 1, 0, none⟩) (by simp)
  have d3 := hb.cell (p := ⟨w.heap.size + 1, 1, none⟩) (by simp)
  have f2 := hb.frozen (p := ⟨w.heap.size + 1, 0, none⟩) (by simp)
  have f3 := hb.frozen (p := ⟨w.heap.size + 1, 1, none⟩) (by simp)
  simp [go_sem] at d2 d3 f2 f3
  have hbb : Below w.heap.size w w1 := ((((Below.refl _ _).alloc (Nat.le_refl _) _).alloc (by go_size) _).alloc (by go_size) _).trans (hb.mono (by go_size))
  have i5 := rules_index_7
  go_wp2_with fail
  refine bodyPost_ret (v := .tuple #[.agg #[.int .i64 0, .bool false], .int .i64 2]) (by simp [results, Try.results11, go_sem, *]) rfl ⟨rfl, ?_⟩
  refine Below.setCell (Below.setCell hbb ?_ _) ?_ _ <;> go_size

set_option maxHeartbeats 1000000 in
theorem slot_8_neg (s l : Int) (c : Bool) (w : World) (h0 : 0 ≤ l) (h3 : l ≤ 3) (h : s < 0) :
    Calls Try.prog 11 #[.int .i64 8, .int .i64 s, .agg #[.int .i64 l, .bool c]] w (Gives (.tuple #[.agg #[.int .i64 0, .bool false], .int .i64 2]) w) := by
  have hv : (decide (0 ≤ l) && decide (l ≤ 3)) = true := by simp; omega
  go_enter Try.func11, Try.ntmps11
  go_wp2_with fail
  refine (style_Valid_calls _ _ _).mono ?_
  rintro e w' ⟨rfl, rfl⟩
  go_wp2_with fail
  refine (style_rules_calls_8 _).mono ?_
  rintro e w1 ⟨rfl, hb, _, _, _, _⟩
  simp only [World.size_alloc] at hb
  have d2 := hb.cell (p := ⟨w.heap.size + 1, 0, none⟩) (by simp)
  have d3 := hb.cell (p := ⟨w.heap.size + 1, 1, none⟩) (by simp)
  have f2 := hb.frozen (p := ⟨w.heap.size + 1, 0, none⟩) (by simp)
  have f3 := hb.frozen (p := ⟨w.heap.size + 1, 1, none⟩) (by simp)
  simp [go_sem] at d2 d3 f2 f3
  have hbb : Below w.heap.size w w1 := ((((Below.refl _ _).alloc (Nat.le_refl _) _).alloc (by go_size) _).alloc (by go_size) _).trans (hb.mono (by go_size))
  have i5 := rules_index_8
  go_wp2_with fail
  refine bodyPost_ret (v := .tuple #[.agg #[.int .i64 0, .bool false], .int .i64 2]) (by simp [results, Try.results11, go_sem, *]) rfl ⟨rfl, ?_⟩
  refine Below.setCell (Below.setCell hbb ?_ _) ?_ _ <;> go_size

set_option maxHeartbeats 1000000 in
theorem slot_8_big (s l : Int) (c : Bool) (w : World) (h0 : 0 ≤ l) (h3 : l ≤ 3) (h : 2 ≤ s) :
    Calls Try.prog 11 #[.int .i64 8, .int .i64 s, .agg #[.int .i64 l, .bool c]] w (Gives (.tuple #[.agg #[.int .i64 0, .bool false], .int .i64 2]) w) := by
  have hv : (decide (0 ≤ l) && decide (l ≤ 3)) = true := by simp; omega
  go_enter Try.func11, Try.ntmps11
  go_wp2_with fail
  refine (style_Valid_calls _ _ _).mono ?_
  rintro e w' ⟨rfl, rfl⟩
  go_wp2_with fail
  refine (style_rules_calls_8 _).mono ?_
  rintro e w1 ⟨rfl, hb, _, _, _, _⟩
  simp only [World.size_alloc] at hb
  have d2 := hb.cell (p := ⟨w.heap.size + 1, 0, none⟩) (by simp)
  have d3 := hb.cell (p := ⟨w.heap.size + 1, 1, none⟩) (by simp)
  have f2 := hb.frozen (p := ⟨w.heap.size + 1, 0, none⟩) (by simp)
  have f3 := hb.frozen (p := ⟨w.heap.size + 1, 1, none⟩) (by simp)
  simp [go_sem] at d2 d3 f2 f3
  have hbb : Below w.heap.size w w1 := ((((Below.refl _ _).alloc (Nat.le_refl _) _).alloc (by go_size) _).alloc (by go_size) _).trans (hb.mono (by go_size))
  have i5 := rules_index_8
  go_wp2_with fail
  refine bodyPost_ret (v := .tuple #[.agg #[.int .i64 0, .bool false], .int .i64 2]) (by simp [results, Try.results11, go_sem, *]) rfl ⟨rfl, ?_⟩
  refine Below.setCell (Below.setCell hbb ?_ _) ?_ _ <;> go_size

set_option maxHeartbeats 1000000 in
theorem slot_9_neg (s l : Int) (c : Bool) (w : World) (h0 : 0 ≤ l) (h3 : l ≤ 3) (h : s < 0) :
    Calls Try.prog 11 #[.int .i64 9, .int .i64 s, .agg #[.int .i64 l, .bool c]] w (Gives (.tuple #[.agg #[.int .i64 0, .bool false], .int .i64 2]) w) := by
  have hv : (decide (0 ≤ l) && decide (l ≤ 3)) = true := by simp; omega
  go_enter Try.func11, Try.ntmps11
  go_wp2_with fail
  refine (style_Valid_calls _ _ _).mono ?_
  rintro e w' ⟨rfl, rfl⟩
  go_wp2_with fail
  refine (style_rules_calls_9 _).mono ?_
  rintro e w1 ⟨rfl, hb, _, _, _, _, _, _⟩
  simp only [World.size_alloc] at hb
  have d2 := hb.cell (p := ⟨w.heap.size + 1, 0, none⟩) (by simp)
  have d3 := hb.cell (p := ⟨w.heap.size + 1, 1, none⟩) (by simp)
  have f2 := hb.frozen (p := ⟨w.heap.size + 1, 0, none⟩) (by simp)
  have f3 := hb.frozen (p := ⟨w.heap.size + 1, 1, none⟩) (by simp)
  simp [go_sem] at d2 d3 f2 f3
  have hbb : Below w.heap.size w w1 := ((((Below.refl _ _).alloc (Nat.le_refl _) _).alloc (by go_size) _).alloc (by go_size) _).trans (hb.mono (by go_size))
  have i5 := rules_index_9
  go_wp2_with fail
  refine bodyPost_ret (v := .tuple #[.agg #[.int .i64 0, .bool false], .int .i64 2]) (by simp [results, Try.results11, go_sem, *]) rfl ⟨rfl, ?_⟩
  refine Below.setCell (Below.setCell hbb ?_ _) ?_ _ <;> go_size

set_option maxHeartbeats 1000000 in
theorem slot_9_big (s l : Int) (c : Bool) (w : World) (h0 : 0 ≤ l) (h3 : l ≤ 3) (h : 3 ≤ s) :
    Calls Try.prog 11 #[.int .i64 9, .int .i64 s, .agg #[.int .i64 l, .bool c]] w (Gives (.tuple #[.agg #[.int .i64 0, .bool false], .int .i64 2]) w) := by
  have hv : (decide (0 ≤ l) && decide (l ≤ 3)) = true := by simp; omega
  go_enter Try.func11, Try.ntmps11
  go_wp2_with fail
  refine (style_Valid_calls _ _ _).mono ?_
  rintro e w' ⟨rfl, rfl⟩
  go_wp2_with fail
  refine (style_rules_calls_9 _).mono ?_
  rintro e w1 ⟨rfl, hb, _, _, _, _, _, _⟩
  simp only [World.size_alloc] at hb
  have d2 := hb.cell (p := ⟨w.heap.size + 1, 0, none⟩) (by simp)
  have d3 := hb.cell (p := ⟨w.heap.size + 1, 1, none⟩) (by simp)
  have f2 := hb.frozen (p := ⟨w.heap.size + 1, 0, none⟩) (by simp)
  have f3 := hb.frozen (p := ⟨w.heap.size + 1, 1, none⟩) (by simp)
  simp [go_sem] at d2 d3 f2 f3
  have hbb : Below w.heap.size w w1 := ((((Below.refl _ _).alloc (Nat.le_refl _) _).alloc (by go_size) _).alloc (by go_size) _).trans (hb.mono (by go_size))
  have i5 := rules_index_9
  go_wp2_with fail
  refine bodyPost_ret (v := .tuple #[.agg #[.int .i64 0, .bool false], .int .i64 2]) (by simp [results, Try.results11, go_sem, *]) rfl ⟨rfl, ?_⟩
  refine Below.setCell (Below.setCell hbb ?_ _) ?_ _ <;> go_size

set_option maxHeartbeats 1000000 in
theorem slot_10_neg (s l : Int) (c : Bool) (w : World) (h0 : 0 ≤ l) (h3 : l ≤ 3) (h : s < 0) :
    Calls Try.prog 11 #[.int .i64 10, .int .i64 s, .agg #[.int .i64 l, .bool c]] w (Gives (.tuple #[.agg #[.int .i64 0, .bool false], .int .i64 2]) w) := by
  have hv : (decide (0 ≤ l) && decide (l ≤ 3)) = true := by simp; omega
  go_enter Try.func11, Try.ntmps11
  go_wp2_with fail
  refine (style_Valid_calls _ _ _).mono ?_
  rintro e w' ⟨rfl, rfl⟩
  go_wp2_with fail
  refine (style_rules_calls_10 _).mono ?_
  rintro e w1 ⟨rfl, hb, _, _⟩
  simp only [World.size_alloc] at hb
  have d2 := hb.cell (p := ⟨w.heap.size + 1, 0, none⟩) (by simp)
  have d3 := hb.cell (p := ⟨w.heap.size + 1, 1, none⟩) (by simp)
  have f2 := hb.frozen (p := ⟨w.heap.size + 1, 0, none⟩) (by simp)
  have f3 := hb.frozen (p := ⟨w.heap.size + 1, 1, none⟩) (by simp)
  simp [go_sem] at d2 d3 f2 f3
  have hbb : Below w.heap.size w w1 := ((((Below.refl _ _).alloc (Nat.le_refl _) _).alloc (by go_size) _).alloc (by go_size) _).trans (hb.mono (by go_size))
  have i5 := rules_index_10
  go_wp2_with fail
  refine bodyPost_ret (v := .tuple #[.agg #[.int .i64 0, .bool false], .int .i64 2]) (by simp [results, Try.results11, go_sem, *]) rfl ⟨rfl, ?_⟩
  refine Below.setCell (Below.setCell hbb ?_ _) ?_ _ <;> go_size

set_option maxHeartbeats 1000000 in
theorem slot_10_big (s l : Int) (c : Bool) (w : World) (h0 : 0 ≤ l) (h3 : l ≤ 3) (h : 1 ≤ s) :
    Calls Try.prog 11 #[.int .i64 10, .int .i64 s, .agg #[.int .i64 l, .bool c]] w (Gives (.tuple #[.agg #[.int .i64 0, .bool false], .int .i64 2]) w) := by
  have hv : (decide (0 ≤ l) && decide (l ≤ 3)) = true := by simp; omega
  go_enter Try.func11, Try.ntmps11
  go_wp2_with fail
  refine (style_Valid_calls _ _ _).mono ?_
  rintro e w' ⟨rfl, rfl⟩
  go_wp2_with fail
  refine (style_rules_calls_10 _).mono ?_
  rintro e w1 ⟨rfl, hb, _, _⟩
  simp only [World.size_alloc] at hb
  have d2 := hb.cell (p := ⟨w.heap.size + 1, 0, none⟩) (by simp)
  have d3 := hb.cell (p := ⟨w.heap.size + 1, 1, none⟩) (by simp)
  have f2 := hb.frozen (p := ⟨w.heap.size + 1, 0, none⟩) (by simp)
  have f3 := hb.frozen (p := ⟨w.heap.size + 1, 1, none⟩) (by simp)
  simp [go_sem] at d2 d3 f2 f3
  have hbb : Below w.heap.size w w1 := ((((Below.refl _ _).alloc (Nat.le_refl _) _).alloc (by go_size) _).alloc (by go_size) _).trans (hb.mono (by go_size))
  have i5 := rules_index_10
  go_wp2_with fail
  refine bodyPost_ret (v := .tuple #[.agg #[.int .i64 0, .bool false], .int .i64 2]) (by simp [results, Try.results11, go_sem, *]) rfl ⟨rfl, ?_⟩
  refine Below.setCell (Below.setCell hbb ?_ _) ?_ _ <;> go_size

set_option maxHeartbeats 1000000 in
theorem slot_11_neg (s l : Int) (c : Bool) (w : World) (h0 : 0 ≤ l) (h3 : l ≤ 3) (h : s < 0) :
    Calls Try.prog 11 #[.int .i64 11, .int .i64 s, .agg #[.int .i64 l, .bool c]] w (Gives (.tuple #[.agg #[.int .i64 0, .bool false], .int .i64 2]) w) := by
  have hv : (decide (0 ≤ l) && decide (l ≤ 3)) = true := by simp; omega
  go_enter Try.func11, Try.ntmps11
  go_wp2_with fail
  refine (style_Valid_calls _ _ _).mono ?_
  rintro e w' ⟨rfl, rfl⟩
  go_wp2_with fail
  refine (style_rules_calls_11 _).mono ?_
  rintro e w1 ⟨rfl, hb, _, _⟩
  simp only [World.size_alloc] at hb
  have d2 := hb.cell (p := ⟨w.heap.size + 1, 0, none⟩) (by simp)
  have d3 := hb.cell (p := ⟨w.heap.size + 1, 1, none⟩) (by simp)
  have f2 := hb.frozen (p := ⟨w.heap.size + 1, 0, none⟩) (by simp)
  have f3 := hb.frozen (p := ⟨w.heap.size + 1, 1, none⟩) (by simp)
  simp [go_sem] at d2 d3 f2 f3
  have hbb : Below w.heap.size w w1 := ((((Below.refl _ _).alloc (Nat.le_refl _) _).alloc (by go_size) _).alloc (by go_size) _).trans (hb.mono (by go_size))
  have i5 := rules_index_11
  go_wp2_with fail
  refine bodyPost_ret (v := .tuple #[.agg #[.int .i64 0, .bool false], .int .i64 2]) (by simp [results, Try.results11, go_sem, *]) rfl ⟨rfl, ?_⟩
  refine Below.setCell (Below.setCell hbb ?_ _) ?_ _ <;> go_size

set_option maxHeartbeats 1000000 in
theorem slot_11_big (s l : Int) (c : Bool) (w : World) (h0 : 0 ≤ l) (h3 : l ≤ 3) (h : 1 ≤ s) :
    Calls Try.prog 11 #[.int .i64 11, .int .i64 s, .agg #[.int .i64 l, .bool c]] w (Gives (.tuple #[.agg #[.int .i64 0, .bool false], .int .i64 2]) w) := by
  have hv : (decide (0 ≤ l) && decide (l ≤ 3)) = true := by simp; omega
  go_enter Try.func11, Try.ntmps11
  go_wp2_with fail
  refine (style_Valid_calls _ _ _).mono ?_
  rintro e w' ⟨rfl, rfl⟩
  go_wp2_with fail
  refine (style_rules_calls_11 _).mono ?_
  rintro e w1 ⟨rfl, hb, _, _⟩
  simp only [World.size_alloc] at hb
  have d2 := hb.cell (p := ⟨w.heap.size + 1, 0, none⟩) (by simp)
  have d3 := hb.cell (p := ⟨w.heap.size + 1, 1, none⟩) (by simp)
  have f2 := hb.frozen (p := ⟨w.heap.size + 1, 0, none⟩) (by simp)
  have f3 := hb.frozen (p := ⟨w.heap.size + 1, 1, none⟩) (by simp)
  simp [go_sem] at d2 d3 f2 f3
  have hbb : Below w.heap.size w w1 := ((((Below.refl _ _).alloc (Nat.le_refl _) _).alloc (by go_size) _).alloc (by go_size) _).trans (hb.mono (by go_size))
  have i5 := rules_index_11
  go_wp2_with fail
  refine bodyPost_ret (v := .tuple #[.agg #[.int .i64 0, .bool false], .int .i64 2]) (by simp [results, Try.results11, go_sem, *]) rfl ⟨rfl, ?_⟩
  refine Below.setCell (Below.setCell hbb ?_ _) ?_ _ <;> go_size

set_option maxHeartbeats 1000000 in
theorem slot_12_neg (s l : Int) (c : Bool) (w : World) (h0 : 0 ≤ l) (h3 : l ≤ 3) (h : s < 0) :
    Calls Try.prog 11 #[.int .i64 12, .int .i64 s, .agg #[.int .i64 l, .bool c]] w (Gives (.tuple #[.agg #[.int .i64 0, .bool false], .int .i64 2]) w) := by
  have hv : (decide (0 ≤ l) && decide (l ≤ 3)) = true := by simp; omega
  go_enter Try.func11, Try.ntmps11
  go_wp2_with fail
  refine (style_Valid_calls _ _ _).mono ?_
  rintro e w' ⟨rfl, rfl⟩
  go_wp2_with fail
  refine (style_rules_calls_12 _).mono ?_
  rintro e w1 ⟨rfl, hb, _, _⟩
  simp only [World.size_alloc] at hb
  have d2 := hb.cell (p := ⟨w.heap.size + 1, 0, none⟩) (by simp)
  have d3 := hb.cell (p := ⟨w.heap.size + 1, 1, none⟩) (by simp)
  have f2 := hb.frozen (p := ⟨w.heap.size + 1, 0, none⟩) (by simp)
  have f3 := hb.frozen (p := ⟨w.heap.size + 1, 1, none⟩) (by simp)
  simp [go_sem] at d2 d3 f2 f3
  have hbb : Below w.heap.size w w1 := ((((Below.refl _ _).alloc (Nat.le_refl _) _).alloc (by go_size) _).alloc (by go_size) _).trans (hb.mono (by go_size))
  have i5 := rules_index_12
  go_wp2_with fail
  refine bodyPost_ret (v := .tuple #[.agg #[.int .i64 0, .bool false], .int .i64 2]) (by simp [results, Try.results11, go_sem, *]) rfl ⟨rfl, ?_⟩
  refine Below.setCell (Below.setCell hbb ?_ _) ?_ _ <;> go_size

set_option maxHeartbeats 1000000 in
theorem slot_12_big (s l : Int) (c : Bool) (w : World) (h0 : 0 ≤ l) (h3 : l ≤ 3) (h : 256 ≤ s) :
    Calls Try.prog 11 #[.int .i64 12, .int .i64 s, .agg #[.int .i64 l, .bool c]] w (Gives (.tuple #[.agg #[.int .i64 0, .bool false], .int .i64 2]) w) := by
  have hv : (decide (0 ≤ l) && decide (l ≤ 3)) = true := by simp; omega
  go_enter Try.func11, Try.ntmps11
  go_wp2_with fail
  refine (style_Valid_calls _ _ _).mono ?_
  rintro e w' ⟨rfl, rfl⟩
  go_wp2_with fail
  refine (style_rules_calls_12 _).mono ?_
  rintro e w1 ⟨rfl, hb, _, _⟩
  simp only [World.size_alloc] at hb
  have d2 := hb.cell (p := ⟨w.heap.size + 1, 0, none⟩) (by simp)
  have d3 := hb.cell (p := ⟨w.heap.size + 1, 1, none⟩) (by simp)
  have f2 := hb.frozen (p := ⟨w.heap.size + 1, 0, none⟩) (by simp)
  have f3 := hb.frozen (p := ⟨w.heap.size + 1, 1, none⟩) (by simp)
  simp [go_sem] at d2 d3 f2 f3
  have hbb : Below w.heap.size w w1 := ((((Below.refl _ _).alloc (Nat.le_refl _) _).alloc (by go_size) _).alloc (by go_size) _).trans (hb.mono (by go_size))
  have i5 := rules_index_12
  go_wp2_with fail
  refine bodyPost_ret (v := .tuple #[.agg #[.int .i64 0, .bool false], .int .i64 2]) (by simp [results, Try.results11, go_sem, *]) rfl ⟨rfl, ?_⟩
  refine Below.setCell (Below.setCell hbb ?_ _) ?_ _ <;> go_size

end Go.Proofs.Ytillohdeljlchaa
